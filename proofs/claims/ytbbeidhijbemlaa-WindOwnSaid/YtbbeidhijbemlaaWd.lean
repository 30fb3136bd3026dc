/- What the program's functions compute, shown of their code (Wd). Own text; parts are printed by a program of this claim's author. -/
import Derived.Test.YtbbeidhijbemlaaWc
import Derived.Test.YtbbeidhijbemlaaRows
import Derived.WalkKit
import Derived.ProofKit
import Derived.OpenShut
import Derived.ShutString
import Derived.ChangeOld
import Derived.SizedLaws
/- sibyl/sibyllaw15.WindArrives, printed by pf.py. (Own text.) -/
namespace Go.Bx.Wind
set_option linter.unusedVariables false
set_option linter.unusedSimpArgs false
set_option linter.unusedSectionVars false
open Go.Proofs
set_option linter.unusedSimpArgs false
set_option linter.unusedVariables false
set_option maxRecDepth 10000
def f6_l0 (r7 : Trip) (r8 : Trip) (v : Int) : Option (Ou Bool Unit) :=
  if (decide (v < (r7.Out.length : Int))) = true then
    (rd r7.Out v >>= fun e18 =>
    rd r8.In (IntKind.i64.wrap ((IntKind.i64.wrap ((r8.In.length : Int) - 1)) - v)) >>= fun e19 =>
    if (e18 != e19) = true then
      (some (.ret false))
    else
      f6_l0 r7 r8 (IntKind.i64.wrap (v + 1)))
  else
    some (.nxt ())
  partial_fixpoint

/-- sibyl/sibyllaw15.WindArrives -/
def f6 (from_ : List Frame) (to : List Frame) : Option (Bool) :=
  f8 >>= fun r1 =>
  if (!r1) = true then
    (some false)
  else
    f11 from_ >>= fun r3 =>
    f10 r3 >>= fun r4 =>
    f11 to >>= fun r5 =>
    f10 r5 >>= fun r6 =>
    f16 r3 r5 >>= fun r7 =>
    f16 r5 r3 >>= fun r8 =>
    ap 8 [] r4 >>= fun a9 =>
    f18 a9 r7 >>= fun r10 =>
    ap 8 [] r6 >>= fun a11 =>
    f18 a11 r8 >>= fun r12 =>
    if (r10.2 != 0) = true then
      (some false)
    else
      if (r12.2 != 0) = true then
        (some false)
      else
        f9 r10.1 r6 >>= fun r13 =>
        if (!r13) = true then
          (some false)
        else
          f9 r12.1 r4 >>= fun r14 =>
          if (!r14) = true then
            (some false)
          else
            if (r7.Common != r8.Common) = true then
              (some false)
            else
              if ((r7.Out.length : Int) != (r8.In.length : Int)) = true then
                (some false)
              else
                f6_l0 r7 r8 0 >>= fun o16 => match o16 with
                | .ret r0 => some r0
                | .nxt wo16 =>
                  f16 r3 r3 >>= fun r21 =>
                  (if (r21.Common == (r4.length : Int)) = true then
                    (some ((IntKind.i64.wrap ((r21.Out.length : Int) + (r21.In.length : Int))) == 0))
                  else
                    some false : Option (Bool)) >>= fun o22 =>
                  some o22

noncomputable def f6_ci : CI := (CI.or 8 f8_tbl (CI.or 11 f11_tbl (CI.or 10 f10_tbl (CI.or 16 f16_tbl (CI.or 18 f18_tbl (CI.or 9 f9_tbl (fun _ _ _ => none)))))))
theorem f6_ci_ok (base : Nat) : CIOK E base f6_ci := (or_ok f8_tbl_ok (or_ok f11_tbl_ok (or_ok f10_tbl_ok (or_ok f16_tbl_ok (or_ok f18_tbl_ok (or_ok f9_tbl_ok no_ok))))))
theorem f6_res : Try.f6.results = #[.tmp 4] := rfl
theorem f6_rt : Try.f6.resultTypes = #[4] := rfl

set_option maxHeartbeats 4000000 in
theorem f6_l0_ok {base : Nat} {c00 : Ctx} (hU : Under E base c00 nilStore) (r7 : Trip) (r8 : Trip) (from_ : List Frame) (r4 : List Int) : ∀ (v : Int) (o16 : Ou Bool Unit), f6_l0 r7 r8 v = some o16 →
    WpL E base c00 nilStore (lb Try.f6 0) ⟨.sl (List.map cFrame from_) :: jj 4 (.row 0 1 0 ((r4).length) :: jj 1 (.ptr 1 0 0 :: .ptr 4 0 0 :: jj 76 (.v (.int .i64 (r7.Out.length : Int)) :: .v (.int .i64 v) :: jj 39 []))), St [some ⟨1, true, true, List.map (cInt .i64) r4⟩, some ⟨3, false, false, [[.v (.int .i64 r7.Common), .row 2 1 0 ((r7.Out).length), .row 3 1 0 ((r7.In).length)]]⟩, some ⟨1, true, true, List.map (cInt .i64) r7.Out⟩, some ⟨1, true, true, List.map (cInt .i64) r7.In⟩, some ⟨3, false, false, [[.v (.int .i64 r8.Common), .row 5 1 0 ((r8.Out).length), .row 6 1 0 ((r8.In).length)]]⟩, some ⟨1, true, true, List.map (cInt .i64) r8.Out⟩, some ⟨1, true, true, List.map (cInt .i64) r8.In⟩], none, 0⟩ (fun ex s1 => match o16 with | .ret r0 => ex = .ret ∧ Rt E base c00 Try.f6 (.v (.bool r0)) s1 | .nxt wo16 => ex = .exit 0 ∧ Wk base c00 nilStore s1 ⟨.sl (List.map cFrame from_) :: jj 4 (.row 0 1 0 ((r4).length) :: jj 120 []), St [some ⟨1, true, true, List.map (cInt .i64) r4⟩], none, 0⟩) := by
  refine f6_l0.partial_correctness r7 r8 (fun v o16 => WpL E base c00 nilStore (lb Try.f6 0) ⟨.sl (List.map cFrame from_) :: jj 4 (.row 0 1 0 ((r4).length) :: jj 1 (.ptr 1 0 0 :: .ptr 4 0 0 :: jj 76 (.v (.int .i64 (r7.Out.length : Int)) :: .v (.int .i64 v) :: jj 39 []))), St [some ⟨1, true, true, List.map (cInt .i64) r4⟩, some ⟨3, false, false, [[.v (.int .i64 r7.Common), .row 2 1 0 ((r7.Out).length), .row 3 1 0 ((r7.In).length)]]⟩, some ⟨1, true, true, List.map (cInt .i64) r7.Out⟩, some ⟨1, true, true, List.map (cInt .i64) r7.In⟩, some ⟨3, false, false, [[.v (.int .i64 r8.Common), .row 5 1 0 ((r8.Out).length), .row 6 1 0 ((r8.In).length)]]⟩, some ⟨1, true, true, List.map (cInt .i64) r8.Out⟩, some ⟨1, true, true, List.map (cInt .i64) r8.In⟩], none, 0⟩ (fun ex s1 => match o16 with | .ret r0 => ex = .ret ∧ Rt E base c00 Try.f6 (.v (.bool r0)) s1 | .nxt wo16 => ex = .exit 0 ∧ Wk base c00 nilStore s1 ⟨.sl (List.map cFrame from_) :: jj 4 (.row 0 1 0 ((r4).length) :: jj 120 []), St [some ⟨1, true, true, List.map (cInt .i64) r4⟩], none, 0⟩)) ?_
  intro lp__ ih v o16 h
  refine WpL.stepE (by simp only [Try.f6, lb, Option.getD_some, loopsOf, List.nil_append, List.append_nil, List.cons_append, List.getElem?_cons_zero, List.getElem?_cons_succ]; rfl) ?_
  refine Wp.seq ?_
  refine Wp.region hU (f6_ci_ok _) (by simp (decide := true) (disch := (first | omega | (simp only [List.length_append, List.length_map, List.length_cons, List.length_nil]; omega))) only [evOp, putTm, ↓reduceIte, jj_0, jj_set, jj_get, jj_getD, E_T, E_gl, E_br, tdesc, reduceCtorEq, Nat.reduceAdd, Nat.reduceSub, Nat.reduceLT, Nat.reduceLeDiff, Nat.reduceEqDiff, bxm, tabs, evBin, intBin, strBin, bothNil, constOp, eqCells, tys]; rfl) ?_
  refine thenN ?_
  refine Wp.seq ?_
  refine Wp.cond hU (t := decide (v < (r7.Out.length : Int))) rfl (fun hc17 => ?_) (fun hc17 => ?_)
  · rw [if_t hc17] at h
    refine Wp.skip ?_
    refine thenN ?_
    refine Wp.seq ?_
    refine Wp.block ?_
    refine Wp.seq ?_
    refine Wp.region hU (f6_ci_ok _) (by simp (decide := true) (disch := (first | omega | (simp only [List.length_append, List.length_map, List.length_cons, List.length_nil]; omega))) only [evOp, putTm, ↓reduceIte, jj_0, jj_set, jj_get, jj_getD, E_T, E_gl, E_br, tdesc, reduceCtorEq, Nat.reduceAdd, Nat.reduceSub, Nat.reduceLT, Nat.reduceLeDiff, Nat.reduceEqDiff, bxm, tabs, hc17, tys]; rfl) ?_
    refine thenN ?_
    refine Wp.seq ?_
    obtain ⟨e18, he18, h⟩ := bind_some h
    obtain ⟨he18a, he18b, he18c⟩ := rd_some he18
    obtain ⟨e19, he19, h⟩ := bind_some h
    obtain ⟨he19a, he19b, he19c⟩ := rd_some he19
    refine Wp.region hU (f6_ci_ok _) (by simp (decide := true) (disch := (first | omega | (simp only [List.length_append, List.length_map, List.length_cons, List.length_nil]; omega))) only [evOp, putTm, ↓reduceIte, jj_0, jj_set, jj_get, jj_getD, E_T, E_gl, E_br, tdesc, reduceCtorEq, Nat.reduceAdd, Nat.reduceSub, Nat.reduceLT, Nat.reduceLeDiff, Nat.reduceEqDiff, bxm, tabs, fieldPlaceT, evLoad, ldV, ofCells, TD.isAgg, indexAddrAV, evA, lenAV, evBin, intBin, strBin, bothNil, constOp, eqCells, he18a, he18b, he18c, he19a, he19b, he19c, hc17, tys]; rfl) ?_
    refine thenN ?_
    refine Wp.cond hU (t := e18 != e19) rfl (fun hc20 => ?_) (fun hc20 => ?_)
    · rw [if_t hc20] at h
      refine Wp.seq ?_
      refine Wp.region hU (f6_ci_ok _) (by simp (decide := true) (disch := (first | omega | (simp only [List.length_append, List.length_map, List.length_cons, List.length_nil]; omega))) only [evOp, putTm, ↓reduceIte, jj_0, jj_set, jj_get, jj_getD, E_T, E_gl, E_br, tdesc, reduceCtorEq, Nat.reduceAdd, Nat.reduceSub, Nat.reduceLT, Nat.reduceLeDiff, Nat.reduceEqDiff, bxm, tabs, hc17, hc20, tys]; rfl) ?_
      refine thenN ?_
      refine Wp.ret ?_
      refine blkR ?_
      refine thenR ?_
      refine againR ?_
      obtain rfl := Option.some.inj h
      refine ⟨rfl, ?_⟩
      refine Rt.of ?_
      simp (decide := true) only [↓reduceIte, jj_0, jj_set, jj_get, jj_getD, evReturn, retShare, evReturn0, resAV, evLoad, ofCells, TD.isAgg, mapO, exportVs, exportV, exportL, export1, rowsOf, rowOf, innerIds, rowIds, one, closed, share, fresh1, E_T, reduceIte, reduceCtorEq, Nat.reduceAdd, Nat.reduceSub, Nat.reduceLT, Nat.reduceLeDiff, Nat.reduceEqDiff, bxm, tabs, List.map_append, f6_res, f6_rt, tys]
    · rw [if_f hc20] at h
      refine Wp.skip ?_
      refine blkN ?_
      refine thenN ?_
      refine Wp.region hU (f6_ci_ok _) (by simp (decide := true) (disch := (first | omega | (simp only [List.length_append, List.length_map, List.length_cons, List.length_nil]; omega))) only [evOp, putTm, ↓reduceIte, jj_0, jj_set, jj_get, jj_getD, E_T, E_gl, E_br, tdesc, reduceCtorEq, Nat.reduceAdd, Nat.reduceSub, Nat.reduceLT, Nat.reduceLeDiff, Nat.reduceEqDiff, bxm, tabs, evBin, intBin, strBin, bothNil, constOp, eqCells, hc17, hc20, tys]; rfl) ?_
      refine againN ?_
      refine Wk.wpL ?_ (ih (IntKind.i64.wrap (v + 1)) _ h)
      refine Wk.weak hU [some 0, some 1, some 2, some 3, some 4, some 5, some 6] _ (by decide) ?_ ?_
      · refine .obj rfl ?_ ?_
        · first | exact .same _ _ _ | (refine WO.same_eq ?_; simp only [bxw, tys]; done)
        refine .obj rfl ?_ ?_
        · refine .mk ?_ (by simp only [bxm, leaf_ptr]) nofun
          refine .cons ?_ .nil
          (repeat' (first | exact WVs.nil | (refine WVs.jjT (by simp only [jj_length, List.length_cons, List.length_nil, Nat.reduceAdd, Nat.reduceLeDiff]) ?_; try simp (decide := true) only [jj_0, jj_drop, List.drop_succ_cons, List.drop_zero, List.drop_nil, Nat.reduceSub, Nat.reduceLeDiff, ↓reduceIte]) | refine WVs.cons ?_ ?_ | (refine WVs.aggW ?_) | (refine WVs.fnW ?_ ?_))) <;> (first | exact WV.junk _ | exact WV.keep rfl | exact WV.row rfl | exact WV.nil rfl | exact WV.nilsl | exact WV.emp rfl | exact WV.empsl | exact WV.ptr rfl | (refine WV.row_eq rfl ?_; simp only [bxw, tys]) | (refine WV.view (k := 3) ?_; simp (decide := true) only [reify, share, fresh1, reduceIte, reduceCtorEq, Nat.reduceAdd, bxm, tys]) | (refine WV.eq ?_ rfl; simp only [bxw, tys]))
        refine .obj rfl ?_ ?_
        · first | exact .same _ _ _ | (refine WO.same_eq ?_; simp only [bxw, tys]; done)
        refine .obj rfl ?_ ?_
        · first | exact .same _ _ _ | (refine WO.same_eq ?_; simp only [bxw, tys]; done)
        refine .obj rfl ?_ ?_
        · refine .mk ?_ (by simp only [bxm, leaf_ptr]) nofun
          refine .cons ?_ .nil
          (repeat' (first | exact WVs.nil | (refine WVs.jjT (by simp only [jj_length, List.length_cons, List.length_nil, Nat.reduceAdd, Nat.reduceLeDiff]) ?_; try simp (decide := true) only [jj_0, jj_drop, List.drop_succ_cons, List.drop_zero, List.drop_nil, Nat.reduceSub, Nat.reduceLeDiff, ↓reduceIte]) | refine WVs.cons ?_ ?_ | (refine WVs.aggW ?_) | (refine WVs.fnW ?_ ?_))) <;> (first | exact WV.junk _ | exact WV.keep rfl | exact WV.row rfl | exact WV.nil rfl | exact WV.nilsl | exact WV.emp rfl | exact WV.empsl | exact WV.ptr rfl | (refine WV.row_eq rfl ?_; simp only [bxw, tys]) | (refine WV.view (k := 3) ?_; simp (decide := true) only [reify, share, fresh1, reduceIte, reduceCtorEq, Nat.reduceAdd, bxm, tys]) | (refine WV.eq ?_ rfl; simp only [bxw, tys]))
        refine .obj rfl ?_ ?_
        · first | exact .same _ _ _ | (refine WO.same_eq ?_; simp only [bxw, tys]; done)
        refine .obj rfl ?_ ?_
        · first | exact .same _ _ _ | (refine WO.same_eq ?_; simp only [bxw, tys]; done)
        exact .nil
      · (repeat' (first | exact WVs.nil | (refine WVs.jjT (by simp only [jj_length, List.length_cons, List.length_nil, Nat.reduceAdd, Nat.reduceLeDiff]) ?_; try simp (decide := true) only [jj_0, jj_drop, List.drop_succ_cons, List.drop_zero, List.drop_nil, Nat.reduceSub, Nat.reduceLeDiff, ↓reduceIte]) | refine WVs.cons ?_ ?_ | (refine WVs.aggW ?_) | (refine WVs.fnW ?_ ?_))) <;> (first | exact WV.junk _ | exact WV.keep rfl | exact WV.row rfl | exact WV.nil rfl | exact WV.nilsl | exact WV.emp rfl | exact WV.empsl | exact WV.ptr rfl | (refine WV.row_eq rfl ?_; simp only [bxw, tys]) | (refine WV.view (k := 3) ?_; simp (decide := true) only [reify, share, fresh1, reduceIte, reduceCtorEq, Nat.reduceAdd, bxm, tys]) | (refine WV.eq ?_ rfl; simp only [bxw, tys]))
  · rw [if_f hc17] at h
    refine Wp.exit ?_
    refine thenE ?_
    refine againE ?_
    obtain rfl := Option.some.inj h
    refine ⟨rfl, ?_⟩
    refine Wk.weak hU [some 0] _ (by decide) ?_ ?_
    · refine .obj rfl ?_ ?_
      · first | exact .same _ _ _ | (refine WO.same_eq ?_; simp only [bxw, tys]; done)
      exact .nil
    · (repeat' (first | exact WVs.nil | (refine WVs.jjT (by simp only [jj_length, List.length_cons, List.length_nil, Nat.reduceAdd, Nat.reduceLeDiff]) ?_; try simp (decide := true) only [jj_0, jj_drop, List.drop_succ_cons, List.drop_zero, List.drop_nil, Nat.reduceSub, Nat.reduceLeDiff, ↓reduceIte]) | refine WVs.cons ?_ ?_ | (refine WVs.aggW ?_) | (refine WVs.fnW ?_ ?_))) <;> (first | exact WV.junk _ | exact WV.keep rfl | exact WV.row rfl | exact WV.nil rfl | exact WV.nilsl | exact WV.emp rfl | exact WV.empsl | exact WV.ptr rfl | (refine WV.row_eq rfl ?_; simp only [bxw, tys]) | (refine WV.view (k := 3) ?_; simp (decide := true) only [reify, share, fresh1, reduceIte, reduceCtorEq, Nat.reduceAdd, bxm, tys]) | (refine WV.eq ?_ rfl; simp only [bxw, tys]))

set_option maxHeartbeats 4000000 in
theorem f6_ok (from_ : List Frame) (to : List Frame) (r : Bool) (h : f6 from_ to = some r) : PureOK E 6 [.sl (List.map cFrame from_), .sl (List.map cFrame to)] (.v (.bool r)) := by
  unfold f6 at h
  refine pure_of_wp tabOK mixed (fn := Try.f6) (nt := 126) Try.func6 rfl rfl (names _ _ Try.func6) rfl rfl (fun _ => rfl) (fun base c00 hU => ?_)
  refine Wk.wp (s2 := ⟨.sl (List.map cFrame from_) :: .sl (List.map cFrame to) :: jj 124 [], St [], none, 0⟩) ?_ ?_
  · refine Wk.weak hU [] _ (by decide) .nil ?_
    simp only [jjs, List.length_cons, List.length_nil, Nat.reduceAdd, Nat.reduceSub, List.replicate, List.cons_append, List.nil_append]
    repeat' (first | exact WVs.nil | refine WVs.cons ?_ ?_)
    all_goals first | exact WV.junk _ | exact WV.keep rfl | exact .agg rfl (aggKeep rfl)
  refine Wp.seq ?_
  refine Wp.region hU (f6_ci_ok _) (by simp (decide := true) (disch := (first | omega | (simp only [List.length_append, List.length_map, List.length_cons, List.length_nil]; omega))) only [evOp, putTm, ↓reduceIte, jj_0, jj_set, jj_get, jj_getD, E_T, E_gl, E_br, tdesc, reduceCtorEq, Nat.reduceAdd, Nat.reduceSub, Nat.reduceLT, Nat.reduceLeDiff, Nat.reduceEqDiff, bxm, tabs, tys]; rfl) ?_
  refine thenN ?_
  refine Wp.seq ?_
  refine Wp.seq ?_
  obtain ⟨r1, hr1, h⟩ := bind_some h
  have hr1c : ∀ σ, f6_ci 8 [] σ = some (.v (.bool r1), σ, none) := fun σ => f8_call hr1 σ
  refine Wp.region hU (f6_ci_ok _) (by simp (decide := true) (disch := (first | omega | (simp only [List.length_append, List.length_map, List.length_cons, List.length_nil]; omega))) only [evOp, putTm, ↓reduceIte, jj_0, jj_set, jj_get, jj_getD, E_T, E_gl, E_br, tdesc, reduceCtorEq, Nat.reduceAdd, Nat.reduceSub, Nat.reduceLT, Nat.reduceLeDiff, Nat.reduceEqDiff, bxm, tabs, evCall, mapO, importL, import2L, import1, import2, share, fresh1, freshL, evUn, hr1c, tys]; rfl) ?_
  refine thenN ?_
  refine Wp.cond hU (t := !r1) rfl (fun hc2 => ?_) (fun hc2 => ?_)
  · rw [if_t hc2] at h
    refine Wp.seq ?_
    refine Wp.region hU (f6_ci_ok _) (by simp (decide := true) (disch := (first | omega | (simp only [List.length_append, List.length_map, List.length_cons, List.length_nil]; omega))) only [evOp, putTm, ↓reduceIte, jj_0, jj_set, jj_get, jj_getD, E_T, E_gl, E_br, tdesc, reduceCtorEq, Nat.reduceAdd, Nat.reduceSub, Nat.reduceLT, Nat.reduceLeDiff, Nat.reduceEqDiff, bxm, tabs, hc2, tys]; rfl) ?_
    refine thenN ?_
    refine Wp.ret ?_
    refine thenR ?_
    obtain rfl := Option.some.inj h
    refine ⟨.inl rfl, ?_⟩
    refine Rt.of ?_
    simp (decide := true) only [↓reduceIte, jj_0, jj_set, jj_get, jj_getD, evReturn, retShare, evReturn0, resAV, evLoad, ofCells, TD.isAgg, mapO, exportVs, exportV, exportL, export1, rowsOf, rowOf, innerIds, rowIds, one, closed, share, fresh1, E_T, reduceIte, reduceCtorEq, Nat.reduceAdd, Nat.reduceSub, Nat.reduceLT, Nat.reduceLeDiff, Nat.reduceEqDiff, bxm, tabs, List.map_append, f6_res, f6_rt, tys]
  · rw [if_f hc2] at h
    refine Wp.skip ?_
    refine thenN ?_
    refine Wp.seq ?_
    obtain ⟨r3, hr3, h⟩ := bind_some h
    have hr3c : ∀ σ, f6_ci 11 [.sl (List.map cFrame from_)] σ = some (.own false 3 (List.map cFrame r3), σ, none) := fun σ => f11_call hr3 σ
    obtain ⟨r4, hr4, h⟩ := bind_some h
    have hr4c : ∀ σ, f6_ci 10 [.sl (List.map cFrame r3)] σ = some (.own false 1 (List.map (cInt .i64) r4), σ, none) := fun σ => f10_call hr4 σ
    obtain ⟨r5, hr5, h⟩ := bind_some h
    have hr5c : ∀ σ, f6_ci 11 [.sl (List.map cFrame to)] σ = some (.own false 3 (List.map cFrame r5), σ, none) := fun σ => f11_call hr5 σ
    obtain ⟨r6, hr6, h⟩ := bind_some h
    have hr6c : ∀ σ, f6_ci 10 [.sl (List.map cFrame r5)] σ = some (.own false 1 (List.map (cInt .i64) r6), σ, none) := fun σ => f10_call hr6 σ
    refine Wp.region hU (f6_ci_ok _) (by simp (decide := true) (disch := (first | omega | (simp only [List.length_append, List.length_map, List.length_cons, List.length_nil]; omega))) only [evOp, putTm, ↓reduceIte, jj_0, jj_set, jj_get, jj_getD, E_T, E_gl, E_br, tdesc, reduceCtorEq, Nat.reduceAdd, Nat.reduceSub, Nat.reduceLT, Nat.reduceLeDiff, Nat.reduceEqDiff, bxm, tabs, evCall, mapO, importL, import2L, import1, import2, share, fresh1, freshL, hr3c, hr4c, hr5c, hr6c, hc2, tys]; rfl) ?_
    refine thenN ?_
    refine Wp.seq ?_
    obtain ⟨r7, hr7, h⟩ := bind_some h
    have hr7c : ∀ σ, f6_ci 16 [.sl (List.map cFrame r3), .sl (List.map cFrame r5)] σ = some (.agg [.v (.int .i64 r7.Common), .own false 1 (List.map (cInt .i64) r7.Out), .own false 1 (List.map (cInt .i64) r7.In)], σ, none) := fun σ => f16_call hr7 σ
    obtain ⟨r8, hr8, h⟩ := bind_some h
    have hr8c : ∀ σ, f6_ci 16 [.sl (List.map cFrame r5), .sl (List.map cFrame r3)] σ = some (.agg [.v (.int .i64 r8.Common), .own false 1 (List.map (cInt .i64) r8.Out), .own false 1 (List.map (cInt .i64) r8.In)], σ, none) := fun σ => f16_call hr8 σ
    refine Wp.region hU (f6_ci_ok _) (by simp (decide := true) (disch := (first | omega | (simp only [List.length_append, List.length_map, List.length_cons, List.length_nil]; omega))) only [evOp, putTm, ↓reduceIte, jj_0, jj_set, jj_get, jj_getD, E_T, E_gl, E_br, tdesc, reduceCtorEq, Nat.reduceAdd, Nat.reduceSub, Nat.reduceLT, Nat.reduceLeDiff, Nat.reduceEqDiff, bxm, tabs, evCall, mapO, importL, import2L, import1, import2, share, fresh1, freshL, evStore, putAt, hr7c, hr8c, hr3c, hr5c, hr5c, hr3c, hc2, tys]; rfl) ?_
    refine thenN ?_
    refine Wp.seq ?_
    obtain ⟨a9, ha9, h⟩ := bind_some h
    obtain ⟨ha9a, ha9b⟩ := ap_some ha9
    try simp only [List.length_cons, List.length_nil, Nat.zero_add, Nat.add_zero, Nat.reduceAdd] at ha9a
    obtain ⟨r10, hr10, h⟩ := bind_some h
    have hr10c : ∀ σ, f6_ci 18 [.sl (List.map (cInt .i64) a9), .agg [.v (.int .i64 r7.Common), .sl (List.map (cInt .i64) r7.Out), .sl (List.map (cInt .i64) r7.In)]] σ = some (.tup [.own false 1 (List.map (cInt .i64) r10.1), .v (.int .i64 r10.2)], σ, none) := fun σ => f18_call hr10 σ
    have hr10p := hr10c
    try simp only [ha9b, List.map_append, List.nil_append, Int.toNat_zero, List.drop_zero, List.map_cons, List.map_nil, cInt_eq, cBool_eq, cStr_eq, cSl_eq, tys] at hr10p
    refine Wp.region hU (f6_ci_ok _) (by simp (decide := true) (disch := (first | omega | (simp only [List.length_append, List.length_map, List.length_cons, List.length_nil]; omega))) only [evOp, putTm, ↓reduceIte, jj_0, jj_set, jj_get, jj_getD, E_T, E_gl, E_br, tdesc, reduceCtorEq, Nat.reduceAdd, Nat.reduceSub, Nat.reduceLT, Nat.reduceLeDiff, Nat.reduceEqDiff, bxm, tabs, evA, evAppend, elems, flatOf, evLoad, ldV, ofCells, TD.isAgg, evCall, mapO, importL, import2L, import1, import2, share, fresh1, freshL, ha9a, hr10c, hr10p, hc2, tys]; rfl) ?_
    refine thenN ?_
    refine Wk.wp (s2 := ⟨.sl (List.map cFrame from_) :: jj 4 (.row 0 1 0 ((r4).length) :: .row 1 1 0 ((r6).length) :: .ptr 2 0 0 :: .ptr 5 0 0 :: .row 8 1 0 ((r10.1).length) :: .v (.int .i64 r10.2) :: jj 115 []), St [some ⟨1, false, true, List.map (cInt .i64) r4⟩, some ⟨1, false, true, List.map (cInt .i64) r6⟩, some ⟨3, false, false, [[.v (.int .i64 r7.Common), .row 3 1 0 ((r7.Out).length), .row 4 1 0 ((r7.In).length)]]⟩, some ⟨1, true, true, List.map (cInt .i64) r7.Out⟩, some ⟨1, true, true, List.map (cInt .i64) r7.In⟩, some ⟨3, false, false, [[.v (.int .i64 r8.Common), .row 6 1 0 ((r8.Out).length), .row 7 1 0 ((r8.In).length)]]⟩, some ⟨1, false, true, List.map (cInt .i64) r8.Out⟩, some ⟨1, false, true, List.map (cInt .i64) r8.In⟩, some ⟨1, false, true, List.map (cInt .i64) r10.1⟩], none, 0⟩) ?_ ?_
    · try simp only [jjs]
      refine Wk.weak hU [some 1, some 3, some 12, some 6, some 7, some 13, some 10, some 11, some 16] _ (by decide) ?_ ?_
      · refine .obj rfl ?_ ?_
        · first | exact .same _ _ _ | (refine WO.same_eq ?_; simp only [bxw, ha9b, tys]; done)
        refine .obj rfl ?_ ?_
        · first | exact .same _ _ _ | (refine WO.same_eq ?_; simp only [bxw, ha9b, tys]; done)
        refine .obj rfl ?_ ?_
        · refine .mk ?_ (by simp only [bxm, leaf_ptr]) nofun
          refine .cons ?_ .nil
          (repeat' (first | exact WVs.nil | (refine WVs.jjT (by simp only [jj_length, List.length_cons, List.length_nil, Nat.reduceAdd, Nat.reduceLeDiff]) ?_; try simp (decide := true) only [jj_0, jj_drop, List.drop_succ_cons, List.drop_zero, List.drop_nil, Nat.reduceSub, Nat.reduceLeDiff, ↓reduceIte]) | refine WVs.cons ?_ ?_ | (refine WVs.aggW ?_) | (refine WVs.fnW ?_ ?_))) <;> (first | exact WV.junk _ | exact WV.keep rfl | exact WV.row rfl | exact WV.nil rfl | exact WV.nilsl | exact WV.emp rfl | exact WV.empsl | exact WV.ptr rfl | (refine WV.row_eq rfl ?_; simp only [bxw, ha9b, tys]) | (refine WV.view (k := 3) ?_; simp (decide := true) only [reify, share, fresh1, reduceIte, reduceCtorEq, Nat.reduceAdd, bxm, tys]) | (refine WV.eq ?_ rfl; simp only [bxw, ha9b, tys]))
        refine .obj rfl ?_ ?_
        · first | exact .same _ _ _ | (refine WO.same_eq ?_; simp only [bxw, ha9b, tys]; done)
        refine .obj rfl ?_ ?_
        · first | exact .same _ _ _ | (refine WO.same_eq ?_; simp only [bxw, ha9b, tys]; done)
        refine .obj rfl ?_ ?_
        · refine .mk ?_ (by simp only [bxm, leaf_ptr]) nofun
          refine .cons ?_ .nil
          (repeat' (first | exact WVs.nil | (refine WVs.jjT (by simp only [jj_length, List.length_cons, List.length_nil, Nat.reduceAdd, Nat.reduceLeDiff]) ?_; try simp (decide := true) only [jj_0, jj_drop, List.drop_succ_cons, List.drop_zero, List.drop_nil, Nat.reduceSub, Nat.reduceLeDiff, ↓reduceIte]) | refine WVs.cons ?_ ?_ | (refine WVs.aggW ?_) | (refine WVs.fnW ?_ ?_))) <;> (first | exact WV.junk _ | exact WV.keep rfl | exact WV.row rfl | exact WV.nil rfl | exact WV.nilsl | exact WV.emp rfl | exact WV.empsl | exact WV.ptr rfl | (refine WV.row_eq rfl ?_; simp only [bxw, ha9b, tys]) | (refine WV.view (k := 3) ?_; simp (decide := true) only [reify, share, fresh1, reduceIte, reduceCtorEq, Nat.reduceAdd, bxm, tys]) | (refine WV.eq ?_ rfl; simp only [bxw, ha9b, tys]))
        refine .obj rfl ?_ ?_
        · first | exact .same _ _ _ | (refine WO.same_eq ?_; simp only [bxw, ha9b, tys]; done)
        refine .obj rfl ?_ ?_
        · first | exact .same _ _ _ | (refine WO.same_eq ?_; simp only [bxw, ha9b, tys]; done)
        refine .obj rfl ?_ ?_
        · first | exact .same _ _ _ | (refine WO.same_eq ?_; simp only [bxw, ha9b, tys]; done)
        exact .nil
      · (repeat' (first | exact WVs.nil | (refine WVs.jjT (by simp only [jj_length, List.length_cons, List.length_nil, Nat.reduceAdd, Nat.reduceLeDiff]) ?_; try simp (decide := true) only [jj_0, jj_drop, List.drop_succ_cons, List.drop_zero, List.drop_nil, Nat.reduceSub, Nat.reduceLeDiff, ↓reduceIte]) | refine WVs.cons ?_ ?_ | (refine WVs.aggW ?_) | (refine WVs.fnW ?_ ?_))) <;> (first | exact WV.junk _ | exact WV.keep rfl | exact WV.row rfl | exact WV.nil rfl | exact WV.nilsl | exact WV.emp rfl | exact WV.empsl | exact WV.ptr rfl | (refine WV.row_eq rfl ?_; simp only [bxw, ha9b, tys]) | (refine WV.view (k := 3) ?_; simp (decide := true) only [reify, share, fresh1, reduceIte, reduceCtorEq, Nat.reduceAdd, bxm, tys]) | (refine WV.eq ?_ rfl; simp only [bxw, ha9b, tys]))
    as_aux_lemma =>
      refine Wp.seq ?_
      obtain ⟨a11, ha11, h⟩ := bind_some h
      obtain ⟨ha11a, ha11b⟩ := ap_some ha11
      try simp only [List.length_cons, List.length_nil, Nat.zero_add, Nat.add_zero, Nat.reduceAdd] at ha11a
      obtain ⟨r12, hr12, h⟩ := bind_some h
      have hr12c : ∀ σ, f6_ci 18 [.sl (List.map (cInt .i64) a11), .agg [.v (.int .i64 r8.Common), .sl (List.map (cInt .i64) r8.Out), .sl (List.map (cInt .i64) r8.In)]] σ = some (.tup [.own false 1 (List.map (cInt .i64) r12.1), .v (.int .i64 r12.2)], σ, none) := fun σ => f18_call hr12 σ
      have hr12p := hr12c
      try simp only [ha11b, List.map_append, List.nil_append, Int.toNat_zero, List.drop_zero, List.map_cons, List.map_nil, cInt_eq, cBool_eq, cStr_eq, cSl_eq, tys] at hr12p
      refine Wp.region hU (f6_ci_ok _) (by simp (decide := true) (disch := (first | omega | (simp only [List.length_append, List.length_map, List.length_cons, List.length_nil]; omega))) only [evOp, putTm, ↓reduceIte, jj_0, jj_set, jj_get, jj_getD, E_T, E_gl, E_br, tdesc, reduceCtorEq, Nat.reduceAdd, Nat.reduceSub, Nat.reduceLT, Nat.reduceLeDiff, Nat.reduceEqDiff, bxm, tabs, evA, evAppend, elems, flatOf, evLoad, ldV, ofCells, TD.isAgg, evCall, mapO, importL, import2L, import1, import2, share, fresh1, freshL, ha11a, hr12c, hr12p, hc2, tys]; rfl) ?_
      refine thenN ?_
      refine Wk.wp (s2 := ⟨.sl (List.map cFrame from_) :: jj 4 (.row 0 1 0 ((r4).length) :: .row 1 1 0 ((r6).length) :: .ptr 2 0 0 :: .ptr 5 0 0 :: .row 8 1 0 ((r10.1).length) :: .v (.int .i64 r10.2) :: .row 9 1 0 ((r12.1).length) :: .v (.int .i64 r12.2) :: jj 113 []), St [some ⟨1, false, true, List.map (cInt .i64) r4⟩, some ⟨1, false, true, List.map (cInt .i64) r6⟩, some ⟨3, false, false, [[.v (.int .i64 r7.Common), .row 3 1 0 ((r7.Out).length), .row 4 1 0 ((r7.In).length)]]⟩, some ⟨1, true, true, List.map (cInt .i64) r7.Out⟩, some ⟨1, true, true, List.map (cInt .i64) r7.In⟩, some ⟨3, false, false, [[.v (.int .i64 r8.Common), .row 6 1 0 ((r8.Out).length), .row 7 1 0 ((r8.In).length)]]⟩, some ⟨1, true, true, List.map (cInt .i64) r8.Out⟩, some ⟨1, true, true, List.map (cInt .i64) r8.In⟩, some ⟨1, false, true, List.map (cInt .i64) r10.1⟩, some ⟨1, false, true, List.map (cInt .i64) r12.1⟩], none, 0⟩) ?_ ?_
      · try simp only [jjs]
        refine Wk.weak hU [some 0, some 1, some 2, some 3, some 4, some 5, some 6, some 7, some 8, some 11] _ (by decide) ?_ ?_
        · refine .obj rfl ?_ ?_
          · first | exact .same _ _ _ | (refine WO.same_eq ?_; simp only [bxw, ha9b, ha11b, tys]; done)
          refine .obj rfl ?_ ?_
          · first | exact .same _ _ _ | (refine WO.same_eq ?_; simp only [bxw, ha9b, ha11b, tys]; done)
          refine .obj rfl ?_ ?_
          · refine .mk ?_ (by simp only [bxm, leaf_ptr]) nofun
            refine .cons ?_ .nil
            (repeat' (first | exact WVs.nil | (refine WVs.jjT (by simp only [jj_length, List.length_cons, List.length_nil, Nat.reduceAdd, Nat.reduceLeDiff]) ?_; try simp (decide := true) only [jj_0, jj_drop, List.drop_succ_cons, List.drop_zero, List.drop_nil, Nat.reduceSub, Nat.reduceLeDiff, ↓reduceIte]) | refine WVs.cons ?_ ?_ | (refine WVs.aggW ?_) | (refine WVs.fnW ?_ ?_))) <;> (first | exact WV.junk _ | exact WV.keep rfl | exact WV.row rfl | exact WV.nil rfl | exact WV.nilsl | exact WV.emp rfl | exact WV.empsl | exact WV.ptr rfl | (refine WV.row_eq rfl ?_; simp only [bxw, ha9b, ha11b, tys]) | (refine WV.view (k := 3) ?_; simp (decide := true) only [reify, share, fresh1, reduceIte, reduceCtorEq, Nat.reduceAdd, bxm, tys]) | (refine WV.eq ?_ rfl; simp only [bxw, ha9b, ha11b, tys]))
          refine .obj rfl ?_ ?_
          · first | exact .same _ _ _ | (refine WO.same_eq ?_; simp only [bxw, ha9b, ha11b, tys]; done)
          refine .obj rfl ?_ ?_
          · first | exact .same _ _ _ | (refine WO.same_eq ?_; simp only [bxw, ha9b, ha11b, tys]; done)
          refine .obj rfl ?_ ?_
          · refine .mk ?_ (by simp only [bxm, leaf_ptr]) nofun
            refine .cons ?_ .nil
            (repeat' (first | exact WVs.nil | (refine WVs.jjT (by simp only [jj_length, List.length_cons, List.length_nil, Nat.reduceAdd, Nat.reduceLeDiff]) ?_; try simp (decide := true) only [jj_0, jj_drop, List.drop_succ_cons, List.drop_zero, List.drop_nil, Nat.reduceSub, Nat.reduceLeDiff, ↓reduceIte]) | refine WVs.cons ?_ ?_ | (refine WVs.aggW ?_) | (refine WVs.fnW ?_ ?_))) <;> (first | exact WV.junk _ | exact WV.keep rfl | exact WV.row rfl | exact WV.nil rfl | exact WV.nilsl | exact WV.emp rfl | exact WV.empsl | exact WV.ptr rfl | (refine WV.row_eq rfl ?_; simp only [bxw, ha9b, ha11b, tys]) | (refine WV.view (k := 3) ?_; simp (decide := true) only [reify, share, fresh1, reduceIte, reduceCtorEq, Nat.reduceAdd, bxm, tys]) | (refine WV.eq ?_ rfl; simp only [bxw, ha9b, ha11b, tys]))
          refine .obj rfl ?_ ?_
          · first | exact .same _ _ _ | (refine WO.same_eq ?_; simp only [bxw, ha9b, ha11b, tys]; done)
          refine .obj rfl ?_ ?_
          · first | exact .same _ _ _ | (refine WO.same_eq ?_; simp only [bxw, ha9b, ha11b, tys]; done)
          refine .obj rfl ?_ ?_
          · first | exact .same _ _ _ | (refine WO.same_eq ?_; simp only [bxw, ha9b, ha11b, tys]; done)
          refine .obj rfl ?_ ?_
          · first | exact .same _ _ _ | (refine WO.same_eq ?_; simp only [bxw, ha9b, ha11b, tys]; done)
          exact .nil
        · (repeat' (first | exact WVs.nil | (refine WVs.jjT (by simp only [jj_length, List.length_cons, List.length_nil, Nat.reduceAdd, Nat.reduceLeDiff]) ?_; try simp (decide := true) only [jj_0, jj_drop, List.drop_succ_cons, List.drop_zero, List.drop_nil, Nat.reduceSub, Nat.reduceLeDiff, ↓reduceIte]) | refine WVs.cons ?_ ?_ | (refine WVs.aggW ?_) | (refine WVs.fnW ?_ ?_))) <;> (first | exact WV.junk _ | exact WV.keep rfl | exact WV.row rfl | exact WV.nil rfl | exact WV.nilsl | exact WV.emp rfl | exact WV.empsl | exact WV.ptr rfl | (refine WV.row_eq rfl ?_; simp only [bxw, ha9b, ha11b, tys]) | (refine WV.view (k := 3) ?_; simp (decide := true) only [reify, share, fresh1, reduceIte, reduceCtorEq, Nat.reduceAdd, bxm, tys]) | (refine WV.eq ?_ rfl; simp only [bxw, ha9b, ha11b, tys]))
      as_aux_lemma =>
        refine Wp.seq ?_
        refine Wp.seq ?_
        rcases Bool.eq_false_or_eq_true (r10.2 != 0) with hg17 | hg17
        · rw [if_t hg17] at h
          refine Wp.region hU (f6_ci_ok _) (by simp (decide := true) (disch := (first | omega | (simp only [List.length_append, List.length_map, List.length_cons, List.length_nil]; omega))) only [evOp, putTm, ↓reduceIte, jj_0, jj_set, jj_get, jj_getD, E_T, E_gl, E_br, tdesc, reduceCtorEq, Nat.reduceAdd, Nat.reduceSub, Nat.reduceLT, Nat.reduceLeDiff, Nat.reduceEqDiff, bxm, tabs, evBin, intBin, strBin, bothNil, constOp, eqCells, evCall, mapO, importL, import2L, import1, import2, share, fresh1, freshL, evUn, fieldPlaceT, evLoad, ldV, ofCells, TD.isAgg, evA, lenAV, hc2, hg17, tys]; rfl) ?_
          refine thenN ?_
          refine Wp.cond hU (t := true) rfl (fun _ => ?_) (fun hc => by cases hc)
          refine Wp.seq ?_
          refine Wp.region hU (f6_ci_ok _) (by simp (decide := true) (disch := (first | omega | (simp only [List.length_append, List.length_map, List.length_cons, List.length_nil]; omega))) only [evOp, putTm, ↓reduceIte, jj_0, jj_set, jj_get, jj_getD, E_T, E_gl, E_br, tdesc, reduceCtorEq, Nat.reduceAdd, Nat.reduceSub, Nat.reduceLT, Nat.reduceLeDiff, Nat.reduceEqDiff, bxm, tabs, hc2, hg17, tys]; rfl) ?_
          refine thenN ?_
          refine Wp.ret ?_
          refine thenR ?_
          obtain rfl := Option.some.inj h
          refine ⟨.inl rfl, ?_⟩
          refine Rt.of ?_
          simp (decide := true) only [↓reduceIte, jj_0, jj_set, jj_get, jj_getD, evReturn, retShare, evReturn0, resAV, evLoad, ofCells, TD.isAgg, mapO, exportVs, exportV, exportL, export1, rowsOf, rowOf, innerIds, rowIds, one, closed, share, fresh1, E_T, reduceIte, reduceCtorEq, Nat.reduceAdd, Nat.reduceSub, Nat.reduceLT, Nat.reduceLeDiff, Nat.reduceEqDiff, bxm, tabs, List.map_append, f6_res, f6_rt, tys, ha9b, ha11b]
        · rw [if_f hg17] at h
          rcases Bool.eq_false_or_eq_true (r12.2 != 0) with hg18 | hg18
          · rw [if_t hg18] at h
            refine Wp.region hU (f6_ci_ok _) (by simp (decide := true) (disch := (first | omega | (simp only [List.length_append, List.length_map, List.length_cons, List.length_nil]; omega))) only [evOp, putTm, ↓reduceIte, jj_0, jj_set, jj_get, jj_getD, E_T, E_gl, E_br, tdesc, reduceCtorEq, Nat.reduceAdd, Nat.reduceSub, Nat.reduceLT, Nat.reduceLeDiff, Nat.reduceEqDiff, bxm, tabs, evBin, intBin, strBin, bothNil, constOp, eqCells, evCall, mapO, importL, import2L, import1, import2, share, fresh1, freshL, evUn, fieldPlaceT, evLoad, ldV, ofCells, TD.isAgg, evA, lenAV, hc2, hg17, hg18, tys]; rfl) ?_
            refine thenN ?_
            refine Wp.cond hU (t := true) rfl (fun _ => ?_) (fun hc => by cases hc)
            refine Wp.seq ?_
            refine Wp.region hU (f6_ci_ok _) (by simp (decide := true) (disch := (first | omega | (simp only [List.length_append, List.length_map, List.length_cons, List.length_nil]; omega))) only [evOp, putTm, ↓reduceIte, jj_0, jj_set, jj_get, jj_getD, E_T, E_gl, E_br, tdesc, reduceCtorEq, Nat.reduceAdd, Nat.reduceSub, Nat.reduceLT, Nat.reduceLeDiff, Nat.reduceEqDiff, bxm, tabs, hc2, hg17, hg18, tys]; rfl) ?_
            refine thenN ?_
            refine Wp.ret ?_
            refine thenR ?_
            obtain rfl := Option.some.inj h
            refine ⟨.inl rfl, ?_⟩
            refine Rt.of ?_
            simp (decide := true) only [↓reduceIte, jj_0, jj_set, jj_get, jj_getD, evReturn, retShare, evReturn0, resAV, evLoad, ofCells, TD.isAgg, mapO, exportVs, exportV, exportL, export1, rowsOf, rowOf, innerIds, rowIds, one, closed, share, fresh1, E_T, reduceIte, reduceCtorEq, Nat.reduceAdd, Nat.reduceSub, Nat.reduceLT, Nat.reduceLeDiff, Nat.reduceEqDiff, bxm, tabs, List.map_append, f6_res, f6_rt, tys, ha9b, ha11b]
          · rw [if_f hg18] at h
            obtain ⟨r13, hr13, h⟩ := bind_some h
            have hr13c : ∀ σ, f6_ci 9 [.sl (List.map (cInt .i64) r10.1), .sl (List.map (cInt .i64) r6)] σ = some (.v (.bool r13), σ, none) := fun σ => f9_call hr13 σ
            rcases Bool.eq_false_or_eq_true (!r13) with hg19 | hg19
            · rw [if_t hg19] at h
              refine Wp.region hU (f6_ci_ok _) (by simp (decide := true) (disch := (first | omega | (simp only [List.length_append, List.length_map, List.length_cons, List.length_nil]; omega))) only [evOp, putTm, ↓reduceIte, jj_0, jj_set, jj_get, jj_getD, E_T, E_gl, E_br, tdesc, reduceCtorEq, Nat.reduceAdd, Nat.reduceSub, Nat.reduceLT, Nat.reduceLeDiff, Nat.reduceEqDiff, bxm, tabs, evBin, intBin, strBin, bothNil, constOp, eqCells, evCall, mapO, importL, import2L, import1, import2, share, fresh1, freshL, evUn, fieldPlaceT, evLoad, ldV, ofCells, TD.isAgg, evA, lenAV, hr13c, hc2, hg17, hg18, hg19, tys]; rfl) ?_
              refine thenN ?_
              refine Wp.cond hU (t := true) rfl (fun _ => ?_) (fun hc => by cases hc)
              refine Wp.seq ?_
              refine Wp.region hU (f6_ci_ok _) (by simp (decide := true) (disch := (first | omega | (simp only [List.length_append, List.length_map, List.length_cons, List.length_nil]; omega))) only [evOp, putTm, ↓reduceIte, jj_0, jj_set, jj_get, jj_getD, E_T, E_gl, E_br, tdesc, reduceCtorEq, Nat.reduceAdd, Nat.reduceSub, Nat.reduceLT, Nat.reduceLeDiff, Nat.reduceEqDiff, bxm, tabs, hc2, hg17, hg18, hg19, tys]; rfl) ?_
              refine thenN ?_
              refine Wp.ret ?_
              refine thenR ?_
              obtain rfl := Option.some.inj h
              refine ⟨.inl rfl, ?_⟩
              refine Rt.of ?_
              simp (decide := true) only [↓reduceIte, jj_0, jj_set, jj_get, jj_getD, evReturn, retShare, evReturn0, resAV, evLoad, ofCells, TD.isAgg, mapO, exportVs, exportV, exportL, export1, rowsOf, rowOf, innerIds, rowIds, one, closed, share, fresh1, E_T, reduceIte, reduceCtorEq, Nat.reduceAdd, Nat.reduceSub, Nat.reduceLT, Nat.reduceLeDiff, Nat.reduceEqDiff, bxm, tabs, List.map_append, f6_res, f6_rt, tys, ha9b, ha11b]
            · rw [if_f hg19] at h
              obtain ⟨r14, hr14, h⟩ := bind_some h
              have hr14c : ∀ σ, f6_ci 9 [.sl (List.map (cInt .i64) r12.1), .sl (List.map (cInt .i64) r4)] σ = some (.v (.bool r14), σ, none) := fun σ => f9_call hr14 σ
              rcases Bool.eq_false_or_eq_true (!r14) with hg20 | hg20
              · rw [if_t hg20] at h
                refine Wp.region hU (f6_ci_ok _) (by simp (decide := true) (disch := (first | omega | (simp only [List.length_append, List.length_map, List.length_cons, List.length_nil]; omega))) only [evOp, putTm, ↓reduceIte, jj_0, jj_set, jj_get, jj_getD, E_T, E_gl, E_br, tdesc, reduceCtorEq, Nat.reduceAdd, Nat.reduceSub, Nat.reduceLT, Nat.reduceLeDiff, Nat.reduceEqDiff, bxm, tabs, evBin, intBin, strBin, bothNil, constOp, eqCells, evCall, mapO, importL, import2L, import1, import2, share, fresh1, freshL, evUn, fieldPlaceT, evLoad, ldV, ofCells, TD.isAgg, evA, lenAV, hr13c, hr14c, hc2, hg17, hg18, hg19, hg20, tys]; rfl) ?_
                refine thenN ?_
                refine Wp.cond hU (t := true) rfl (fun _ => ?_) (fun hc => by cases hc)
                refine Wp.seq ?_
                refine Wp.region hU (f6_ci_ok _) (by simp (decide := true) (disch := (first | omega | (simp only [List.length_append, List.length_map, List.length_cons, List.length_nil]; omega))) only [evOp, putTm, ↓reduceIte, jj_0, jj_set, jj_get, jj_getD, E_T, E_gl, E_br, tdesc, reduceCtorEq, Nat.reduceAdd, Nat.reduceSub, Nat.reduceLT, Nat.reduceLeDiff, Nat.reduceEqDiff, bxm, tabs, hc2, hg17, hg18, hg19, hg20, tys]; rfl) ?_
                refine thenN ?_
                refine Wp.ret ?_
                refine thenR ?_
                obtain rfl := Option.some.inj h
                refine ⟨.inl rfl, ?_⟩
                refine Rt.of ?_
                simp (decide := true) only [↓reduceIte, jj_0, jj_set, jj_get, jj_getD, evReturn, retShare, evReturn0, resAV, evLoad, ofCells, TD.isAgg, mapO, exportVs, exportV, exportL, export1, rowsOf, rowOf, innerIds, rowIds, one, closed, share, fresh1, E_T, reduceIte, reduceCtorEq, Nat.reduceAdd, Nat.reduceSub, Nat.reduceLT, Nat.reduceLeDiff, Nat.reduceEqDiff, bxm, tabs, List.map_append, f6_res, f6_rt, tys, ha9b, ha11b]
              · rw [if_f hg20] at h
                rcases Bool.eq_false_or_eq_true (r7.Common != r8.Common) with hg21 | hg21
                · rw [if_t hg21] at h
                  refine Wp.region hU (f6_ci_ok _) (by simp (decide := true) (disch := (first | omega | (simp only [List.length_append, List.length_map, List.length_cons, List.length_nil]; omega))) only [evOp, putTm, ↓reduceIte, jj_0, jj_set, jj_get, jj_getD, E_T, E_gl, E_br, tdesc, reduceCtorEq, Nat.reduceAdd, Nat.reduceSub, Nat.reduceLT, Nat.reduceLeDiff, Nat.reduceEqDiff, bxm, tabs, evBin, intBin, strBin, bothNil, constOp, eqCells, evCall, mapO, importL, import2L, import1, import2, share, fresh1, freshL, evUn, fieldPlaceT, evLoad, ldV, ofCells, TD.isAgg, evA, lenAV, hr13c, hr14c, hc2, hg17, hg18, hg19, hg20, hg21, tys]; rfl) ?_
                  refine thenN ?_
                  refine Wp.cond hU (t := true) rfl (fun _ => ?_) (fun hc => by cases hc)
                  refine Wp.seq ?_
                  refine Wp.region hU (f6_ci_ok _) (by simp (decide := true) (disch := (first | omega | (simp only [List.length_append, List.length_map, List.length_cons, List.length_nil]; omega))) only [evOp, putTm, ↓reduceIte, jj_0, jj_set, jj_get, jj_getD, E_T, E_gl, E_br, tdesc, reduceCtorEq, Nat.reduceAdd, Nat.reduceSub, Nat.reduceLT, Nat.reduceLeDiff, Nat.reduceEqDiff, bxm, tabs, hc2, hg17, hg18, hg19, hg20, hg21, tys]; rfl) ?_
                  refine thenN ?_
                  refine Wp.ret ?_
                  refine thenR ?_
                  obtain rfl := Option.some.inj h
                  refine ⟨.inl rfl, ?_⟩
                  refine Rt.of ?_
                  simp (decide := true) only [↓reduceIte, jj_0, jj_set, jj_get, jj_getD, evReturn, retShare, evReturn0, resAV, evLoad, ofCells, TD.isAgg, mapO, exportVs, exportV, exportL, export1, rowsOf, rowOf, innerIds, rowIds, one, closed, share, fresh1, E_T, reduceIte, reduceCtorEq, Nat.reduceAdd, Nat.reduceSub, Nat.reduceLT, Nat.reduceLeDiff, Nat.reduceEqDiff, bxm, tabs, List.map_append, f6_res, f6_rt, tys, ha9b, ha11b]
                · rw [if_f hg21] at h
                  refine Wp.region hU (f6_ci_ok _) (by simp (decide := true) (disch := (first | omega | (simp only [List.length_append, List.length_map, List.length_cons, List.length_nil]; omega))) only [evOp, putTm, ↓reduceIte, jj_0, jj_set, jj_get, jj_getD, E_T, E_gl, E_br, tdesc, reduceCtorEq, Nat.reduceAdd, Nat.reduceSub, Nat.reduceLT, Nat.reduceLeDiff, Nat.reduceEqDiff, bxm, tabs, evBin, intBin, strBin, bothNil, constOp, eqCells, evCall, mapO, importL, import2L, import1, import2, share, fresh1, freshL, evUn, fieldPlaceT, evLoad, ldV, ofCells, TD.isAgg, evA, lenAV, hr13c, hr14c, hc2, hg17, hg18, hg19, hg20, hg21, tys]; rfl) ?_
                  refine thenN ?_
                  refine Wp.cond hU (t := (r7.Out.length : Int) != (r8.In.length : Int)) rfl (fun hc15 => ?_) (fun hc15 => ?_)
                  · rw [if_t hc15] at h
                    refine Wp.seq ?_
                    refine Wp.region hU (f6_ci_ok _) (by simp (decide := true) (disch := (first | omega | (simp only [List.length_append, List.length_map, List.length_cons, List.length_nil]; omega))) only [evOp, putTm, ↓reduceIte, jj_0, jj_set, jj_get, jj_getD, E_T, E_gl, E_br, tdesc, reduceCtorEq, Nat.reduceAdd, Nat.reduceSub, Nat.reduceLT, Nat.reduceLeDiff, Nat.reduceEqDiff, bxm, tabs, hc2, hg17, hg18, hg19, hg20, hg21, hc15, tys]; rfl) ?_
                    refine thenN ?_
                    refine Wp.ret ?_
                    refine thenR ?_
                    obtain rfl := Option.some.inj h
                    refine ⟨.inl rfl, ?_⟩
                    refine Rt.of ?_
                    simp (decide := true) only [↓reduceIte, jj_0, jj_set, jj_get, jj_getD, evReturn, retShare, evReturn0, resAV, evLoad, ofCells, TD.isAgg, mapO, exportVs, exportV, exportL, export1, rowsOf, rowOf, innerIds, rowIds, one, closed, share, fresh1, E_T, reduceIte, reduceCtorEq, Nat.reduceAdd, Nat.reduceSub, Nat.reduceLT, Nat.reduceLeDiff, Nat.reduceEqDiff, bxm, tabs, List.map_append, f6_res, f6_rt, tys, ha9b, ha11b]
                  · rw [if_f hc15] at h
                    refine Wp.skip ?_
                    refine thenN ?_
                    refine Wp.seq ?_
                    refine Wp.seq ?_
                    refine Wp.region hU (f6_ci_ok _) (by simp (decide := true) (disch := (first | omega | (simp only [List.length_append, List.length_map, List.length_cons, List.length_nil]; omega))) only [evOp, putTm, ↓reduceIte, jj_0, jj_set, jj_get, jj_getD, E_T, E_gl, E_br, tdesc, reduceCtorEq, Nat.reduceAdd, Nat.reduceSub, Nat.reduceLT, Nat.reduceLeDiff, Nat.reduceEqDiff, bxm, tabs, fieldPlaceT, evLoad, ldV, ofCells, TD.isAgg, evA, lenAV, hc2, hg17, hg18, hg19, hg20, hg21, hc15, tys]; rfl) ?_
                    refine thenN ?_
                    refine Wp.block ?_
                    obtain ⟨o16, ho16, h⟩ := bind_some h
                    refine Wp.loop ?_
                    refine Tw.mono (Wk.wpL (s2 := ⟨.sl (List.map cFrame from_) :: jj 4 (.row 0 1 0 ((r4).length) :: jj 1 (.ptr 1 0 0 :: .ptr 4 0 0 :: jj 76 (.v (.int .i64 (r7.Out.length : Int)) :: .v (.int .i64 0) :: jj 39 []))), St [some ⟨1, true, true, List.map (cInt .i64) r4⟩, some ⟨3, false, false, [[.v (.int .i64 r7.Common), .row 2 1 0 ((r7.Out).length), .row 3 1 0 ((r7.In).length)]]⟩, some ⟨1, true, true, List.map (cInt .i64) r7.Out⟩, some ⟨1, true, true, List.map (cInt .i64) r7.In⟩, some ⟨3, false, false, [[.v (.int .i64 r8.Common), .row 5 1 0 ((r8.Out).length), .row 6 1 0 ((r8.In).length)]]⟩, some ⟨1, true, true, List.map (cInt .i64) r8.Out⟩, some ⟨1, true, true, List.map (cInt .i64) r8.In⟩], none, 0⟩) ?_ (f6_l0_ok hU r7 r8 from_ r4 0 o16 ho16)) (fun ex s1 hp => ?_)
                    · try simp only [jjs]
                      refine Wk.weak hU [some 0, some 2, some 3, some 4, some 5, some 6, some 7] _ (by decide) ?_ ?_
                      · refine .obj rfl ?_ ?_
                        · first | exact .same _ _ _ | (refine WO.same_eq ?_; simp only [bxw, ha9b, ha11b, tys]; done)
                        refine .obj rfl ?_ ?_
                        · refine .mk ?_ (by simp only [bxm, leaf_ptr]) nofun
                          refine .cons ?_ .nil
                          (repeat' (first | exact WVs.nil | (refine WVs.jjT (by simp only [jj_length, List.length_cons, List.length_nil, Nat.reduceAdd, Nat.reduceLeDiff]) ?_; try simp (decide := true) only [jj_0, jj_drop, List.drop_succ_cons, List.drop_zero, List.drop_nil, Nat.reduceSub, Nat.reduceLeDiff, ↓reduceIte]) | refine WVs.cons ?_ ?_ | (refine WVs.aggW ?_) | (refine WVs.fnW ?_ ?_))) <;> (first | exact WV.junk _ | exact WV.keep rfl | exact WV.row rfl | exact WV.nil rfl | exact WV.nilsl | exact WV.emp rfl | exact WV.empsl | exact WV.ptr rfl | (refine WV.row_eq rfl ?_; simp only [bxw, ha9b, ha11b, tys]) | (refine WV.view (k := 3) ?_; simp (decide := true) only [reify, share, fresh1, reduceIte, reduceCtorEq, Nat.reduceAdd, bxm, tys]) | (refine WV.eq ?_ rfl; simp only [bxw, ha9b, ha11b, tys]))
                        refine .obj rfl ?_ ?_
                        · first | exact .same _ _ _ | (refine WO.same_eq ?_; simp only [bxw, ha9b, ha11b, tys]; done)
                        refine .obj rfl ?_ ?_
                        · first | exact .same _ _ _ | (refine WO.same_eq ?_; simp only [bxw, ha9b, ha11b, tys]; done)
                        refine .obj rfl ?_ ?_
                        · refine .mk ?_ (by simp only [bxm, leaf_ptr]) nofun
                          refine .cons ?_ .nil
                          (repeat' (first | exact WVs.nil | (refine WVs.jjT (by simp only [jj_length, List.length_cons, List.length_nil, Nat.reduceAdd, Nat.reduceLeDiff]) ?_; try simp (decide := true) only [jj_0, jj_drop, List.drop_succ_cons, List.drop_zero, List.drop_nil, Nat.reduceSub, Nat.reduceLeDiff, ↓reduceIte]) | refine WVs.cons ?_ ?_ | (refine WVs.aggW ?_) | (refine WVs.fnW ?_ ?_))) <;> (first | exact WV.junk _ | exact WV.keep rfl | exact WV.row rfl | exact WV.nil rfl | exact WV.nilsl | exact WV.emp rfl | exact WV.empsl | exact WV.ptr rfl | (refine WV.row_eq rfl ?_; simp only [bxw, ha9b, ha11b, tys]) | (refine WV.view (k := 3) ?_; simp (decide := true) only [reify, share, fresh1, reduceIte, reduceCtorEq, Nat.reduceAdd, bxm, tys]) | (refine WV.eq ?_ rfl; simp only [bxw, ha9b, ha11b, tys]))
                        refine .obj rfl ?_ ?_
                        · first | exact .same _ _ _ | (refine WO.same_eq ?_; simp only [bxw, ha9b, ha11b, tys]; done)
                        refine .obj rfl ?_ ?_
                        · first | exact .same _ _ _ | (refine WO.same_eq ?_; simp only [bxw, ha9b, ha11b, tys]; done)
                        exact .nil
                      · (repeat' (first | exact WVs.nil | (refine WVs.jjT (by simp only [jj_length, List.length_cons, List.length_nil, Nat.reduceAdd, Nat.reduceLeDiff]) ?_; try simp (decide := true) only [jj_0, jj_drop, List.drop_succ_cons, List.drop_zero, List.drop_nil, Nat.reduceSub, Nat.reduceLeDiff, ↓reduceIte]) | refine WVs.cons ?_ ?_ | (refine WVs.aggW ?_) | (refine WVs.fnW ?_ ?_))) <;> (first | exact WV.junk _ | exact WV.keep rfl | exact WV.row rfl | exact WV.nil rfl | exact WV.nilsl | exact WV.emp rfl | exact WV.empsl | exact WV.ptr rfl | (refine WV.row_eq rfl ?_; simp only [bxw, ha9b, ha11b, tys]) | (refine WV.view (k := 3) ?_; simp (decide := true) only [reify, share, fresh1, reduceIte, reduceCtorEq, Nat.reduceAdd, bxm, tys]) | (refine WV.eq ?_ rfl; simp only [bxw, ha9b, ha11b, tys]))
                    · cases o16 with
                      | ret r0 =>
                        obtain ⟨rfl, hp⟩ := hp
                        obtain rfl := Option.some.inj h
                        refine blkR ?_
                        refine thenR ?_
                        exact ⟨.inl rfl, hp⟩
                      | nxt wo16 =>
                        obtain ⟨rfl, hp⟩ := hp
                        dsimp only at h
                        refine blkE ?_
                        refine thenN ?_
                        refine hp.wp ?_
                        as_aux_lemma =>
                          refine Wp.seq ?_
                          obtain ⟨r21, hr21, h⟩ := bind_some h
                          have hr21c : ∀ σ, f6_ci 16 [.sl (List.map cFrame r3), .sl (List.map cFrame r3)] σ = some (.agg [.v (.int .i64 r21.Common), .own false 1 (List.map (cInt .i64) r21.Out), .own false 1 (List.map (cInt .i64) r21.In)], σ, none) := fun σ => f16_call hr21 σ
                          refine Wp.region hU (f6_ci_ok _) (by simp (decide := true) (disch := (first | omega | (simp only [List.length_append, List.length_map, List.length_cons, List.length_nil]; omega))) only [evOp, putTm, ↓reduceIte, jj_0, jj_set, jj_get, jj_getD, E_T, E_gl, E_br, tdesc, reduceCtorEq, Nat.reduceAdd, Nat.reduceSub, Nat.reduceLT, Nat.reduceLeDiff, Nat.reduceEqDiff, bxm, tabs, evCall, mapO, importL, import2L, import1, import2, share, fresh1, freshL, evStore, putAt, hr21c, hr3c, hr3c, hc2, hg17, hg18, hg19, hg20, hg21, hc15, tys]; rfl) ?_
                          refine thenN ?_
                          obtain ⟨o22, ho22, h⟩ := bind_some h
                          refine Wp.seq1 (JP := (fun ex s1 => ex = .nrm ∧ Wk base c00 nilStore s1 ⟨jj 4 (.v (.bool o22) :: jj 121 []), St [], none, 0⟩)) ?_ (fun ex s1 hp => ?_)
                          · replace h := ho22
                            rcases Bool.eq_false_or_eq_true (r21.Common == (r4.length : Int)) with hg23 | hg23
                            · rw [if_t hg23] at h
                              refine Wp.region hU (f6_ci_ok _) (by simp (decide := true) (disch := (first | omega | (simp only [List.length_append, List.length_map, List.length_cons, List.length_nil]; omega))) only [evOp, putTm, ↓reduceIte, jj_0, jj_set, jj_get, jj_getD, E_T, E_gl, E_br, tdesc, reduceCtorEq, Nat.reduceAdd, Nat.reduceSub, Nat.reduceLT, Nat.reduceLeDiff, Nat.reduceEqDiff, bxm, tabs, fieldPlaceT, evLoad, ldV, ofCells, TD.isAgg, evA, lenAV, evBin, intBin, strBin, bothNil, constOp, eqCells, hc2, hg17, hg18, hg19, hg20, hg21, hc15, hg23, tys]; rfl) ?_
                              obtain rfl := Option.some.inj h
                              refine ⟨rfl, ?_⟩
                              refine Wk.weak hU [] _ (by decide) ?_ ?_
                              · exact .nil
                              · (repeat' (first | exact WVs.nil | (refine WVs.jjT (by simp only [jj_length, List.length_cons, List.length_nil, Nat.reduceAdd, Nat.reduceLeDiff]) ?_; try simp (decide := true) only [jj_0, jj_drop, List.drop_succ_cons, List.drop_zero, List.drop_nil, Nat.reduceSub, Nat.reduceLeDiff, ↓reduceIte]) | refine WVs.cons ?_ ?_ | (refine WVs.aggW ?_) | (refine WVs.fnW ?_ ?_))) <;> (first | exact WV.junk _ | exact WV.keep rfl | exact WV.row rfl | exact WV.nil rfl | exact WV.nilsl | exact WV.emp rfl | exact WV.empsl | exact WV.ptr rfl | (refine WV.row_eq rfl ?_; simp only [bxw, ha9b, ha11b, tys]) | (refine WV.view (k := 3) ?_; simp (decide := true) only [reify, share, fresh1, reduceIte, reduceCtorEq, Nat.reduceAdd, bxm, tys]) | (refine WV.eq ?_ rfl; simp only [bxw, ha9b, ha11b, tys]))
                            · rw [if_f hg23] at h
                              refine Wp.region hU (f6_ci_ok _) (by simp (decide := true) (disch := (first | omega | (simp only [List.length_append, List.length_map, List.length_cons, List.length_nil]; omega))) only [evOp, putTm, ↓reduceIte, jj_0, jj_set, jj_get, jj_getD, E_T, E_gl, E_br, tdesc, reduceCtorEq, Nat.reduceAdd, Nat.reduceSub, Nat.reduceLT, Nat.reduceLeDiff, Nat.reduceEqDiff, bxm, tabs, fieldPlaceT, evLoad, ldV, ofCells, TD.isAgg, evA, lenAV, evBin, intBin, strBin, bothNil, constOp, eqCells, hc2, hg17, hg18, hg19, hg20, hg21, hc15, hg23, tys]; rfl) ?_
                              obtain rfl := Option.some.inj h
                              refine ⟨rfl, ?_⟩
                              refine Wk.weak hU [] _ (by decide) ?_ ?_
                              · exact .nil
                              · (repeat' (first | exact WVs.nil | (refine WVs.jjT (by simp only [jj_length, List.length_cons, List.length_nil, Nat.reduceAdd, Nat.reduceLeDiff]) ?_; try simp (decide := true) only [jj_0, jj_drop, List.drop_succ_cons, List.drop_zero, List.drop_nil, Nat.reduceSub, Nat.reduceLeDiff, ↓reduceIte]) | refine WVs.cons ?_ ?_ | (refine WVs.aggW ?_) | (refine WVs.fnW ?_ ?_))) <;> (first | exact WV.junk _ | exact WV.keep rfl | exact WV.row rfl | exact WV.nil rfl | exact WV.nilsl | exact WV.emp rfl | exact WV.empsl | exact WV.ptr rfl | (refine WV.row_eq rfl ?_; simp only [bxw, ha9b, ha11b, tys]) | (refine WV.view (k := 3) ?_; simp (decide := true) only [reify, share, fresh1, reduceIte, reduceCtorEq, Nat.reduceAdd, bxm, tys]) | (refine WV.eq ?_ rfl; simp only [bxw, ha9b, ha11b, tys]))
                          · obtain ⟨rfl, hp⟩ := hp
                            refine thenN (hp.wp ?_)
                            as_aux_lemma =>
                              refine Wp.ret ?_
                              obtain rfl := Option.some.inj h
                              refine ⟨.inl rfl, ?_⟩
                              refine Rt.of ?_
                              simp (decide := true) only [↓reduceIte, jj_0, jj_set, jj_get, jj_getD, evReturn, retShare, evReturn0, resAV, evLoad, ofCells, TD.isAgg, mapO, exportVs, exportV, exportL, export1, rowsOf, rowOf, innerIds, rowIds, one, closed, share, fresh1, E_T, reduceIte, reduceCtorEq, Nat.reduceAdd, Nat.reduceSub, Nat.reduceLT, Nat.reduceLeDiff, Nat.reduceEqDiff, bxm, tabs, List.map_append, f6_res, f6_rt, tys, ha9b, ha11b]

noncomputable def f6_tbl : CI := tbl 6 (fun p : (List Frame) × (List Frame) => [.sl (List.map cFrame p.1), .sl (List.map cFrame p.2)]) (fun p => (f6 p.1 p.2).map fun r => .v (.bool r))
theorem f6_tbl_ok {base : Nat} : CIOK E base f6_tbl := tbl_ok fun p r h => by obtain ⟨q, hq, rfl⟩ := Option.map_eq_some_iff.1 h; exact f6_ok p.1 p.2 q hq
theorem f6_call {from_ : List Frame} {to : List Frame} {r : Bool} (h : f6 from_ to = some r) (σ : Store) : f6_tbl 6 [.sl (List.map cFrame from_), .sl (List.map cFrame to)] σ = some (.v (.bool r), σ, none) :=
  tbl_eq (x := (from_, to)) (fun x y e => by
    obtain ⟨x0, x1⟩ := x; obtain ⟨y0, y1⟩ := y
    have e0 := av_sl injFrame (List.cons.inj e).1
    have e1 := av_sl injFrame (List.cons.inj (List.cons.inj e).2).1
    subst e0 e1; rfl) (by simp [h]) σ
end Go.Bx.Wind

/- Layer 15: what the printed functions compute, in plain Lean. (Own text.) -/
namespace Go.Bx.Wind
set_option linter.unusedVariables false
set_option linter.unusedSimpArgs false
set_option linter.unusedSectionVars false
set_option linter.unusedVariables false
set_option linter.unusedSimpArgs false

theorem w64 {x : Int} (h : -9223372036854775808 ≤ x) (h2 : x < 9223372036854775808) : IntKind.i64.wrap x = x := IntWalk.i64_in _ ⟨h, by omega⟩
theorem rd_nat {α : Type} {l : List α} {i : Nat} (h : i < l.length) : rd l (i : Int) = some l[i] := rd_of (by simp [-List.getElem_cons_drop, h])
theorem bind_ok {α β : Type} (x : α) (f : α → Option β) : ((some x) >>= f) = f x := rfl

/-! ### Same -/
theorem f9_l0_eq (a b : List Int) (hab : a.length = b.length) (hl : a.length ≤ 140737488355328) : ∀ (k i : Nat), i + k = a.length → f9_l0 a b i = some (if a.drop i = b.drop i then .nxt () else .ret false)
  | 0, i, hk => by
    rw [f9_l0, if_neg (by simp; omega), List.drop_of_length_le (by omega), List.drop_of_length_le (by omega), if_pos rfl]
  | k + 1, i, hk => by
    have h1 : i < a.length := by omega
    have h2 : i < b.length := by omega
    rw [f9_l0, if_pos (by simp; omega), rd_nat h1, rd_nat h2]
    simp only [bind_ok]
    rw [List.drop_eq_getElem_cons h1, List.drop_eq_getElem_cons h2]
    by_cases he : a[i] = b[i]
    · rw [if_neg (by simp [-List.getElem_cons_drop, he]), w64 (by omega) (by omega)]
      have := f9_l0_eq a b hab hl k (i + 1) (by omega)
      rw [show ((i : Int) + 1) = ((i + 1 : Nat) : Int) by omega, this]
      simp [-List.getElem_cons_drop, he]
    · rw [if_pos (by simp [-List.getElem_cons_drop, he])]
      simp [-List.getElem_cons_drop, he]
theorem f9_eq (a b : List Int) (hl : a.length ≤ 140737488355328) : f9 a b = some (decide (a = b)) := by
  unfold f9
  by_cases hab : a.length = b.length
  · rw [if_neg (by simp [-List.getElem_cons_drop, hab])]
    have := f9_l0_eq a b hab hl a.length 0 (by omega)
    rw [show ((0 : Nat) : Int) = 0 from rfl] at this
    rw [this]
    simp only [bind_ok, List.drop_zero]
    by_cases h : a = b <;> simp [-List.getElem_cons_drop, h]
  · rw [if_pos (by simp; omega)]
    have : a ≠ b := fun h => hab (by rw [h])
    simp [-List.getElem_cons_drop, this]

/-! ### winds -/
def marksOf (l : List Frame) : List Mark := (l.filter fun f => f.Kind == 2).map fun f => ⟨f.Id⟩
theorem f23_l0_eq (fs : List Frame) (hl : fs.length * 40 ≤ 140737488355328) : ∀ (k i : Nat) (out : List Mark), i + k = fs.length → out.length ≤ i → f23_l0 fs out i = some (out ++ marksOf (fs.drop i))
  | 0, i, out, hk, ho => by
    rw [f23_l0, if_neg (by simp; omega), List.drop_of_length_le (by omega)]; simp [-List.getElem_cons_drop, marksOf]
  | k + 1, i, out, hk, ho => by
    have h1 : i < fs.length := by omega
    rw [f23_l0, if_pos (by simp; omega), rd_nat h1]
    simp only [bind_ok]
    rw [w64 (by omega) (by omega), show ((i : Int) + 1) = ((i + 1 : Nat) : Int) by omega, List.drop_eq_getElem_cons h1]
    by_cases he : fs[i].Kind = 2
    · rw [if_pos (by simp [-List.getElem_cons_drop, he]), ap_of (by simp; omega)]
      simp only [bind_ok]
      rw [f23_l0_eq fs hl k (i + 1) _ (by omega) (by simp; omega)]
      simp [-List.getElem_cons_drop, marksOf, he]
    · rw [if_neg (by simp [-List.getElem_cons_drop, he])]
      simp only [bind_ok]
      rw [f23_l0_eq fs hl k (i + 1) _ (by omega) (by omega)]
      simp [-List.getElem_cons_drop, marksOf, he]
theorem f23_eq (fs : List Frame) (hl : fs.length * 40 ≤ 140737488355328) : f23 fs = some (marksOf fs) := by
  unfold f23
  have := f23_l0_eq fs hl fs.length 0 [] (by omega) (by simp)
  rw [show ((0 : Nat) : Int) = 0 from rfl] at this
  rw [this]; simp [-List.getElem_cons_drop, bind_ok]
theorem f10_l0_eq (m : List Mark) (hl : m.length * 8 ≤ 140737488355328) : ∀ (k i : Nat) (out : List Int), i + k = m.length → out.length ≤ i → f10_l0 m out i = some (out ++ (m.drop i).map (·.id))
  | 0, i, out, hk, ho => by
    rw [f10_l0, if_neg (by simp; omega), List.drop_of_length_le (by omega)]; simp
  | k + 1, i, out, hk, ho => by
    have h1 : i < m.length := by omega
    rw [f10_l0, if_pos (by simp; omega), rd_nat h1]
    simp only [bind_ok]
    rw [w64 (by omega) (by omega), show ((i : Int) + 1) = ((i + 1 : Nat) : Int) by omega, List.drop_eq_getElem_cons h1, ap_of (by simp; omega)]
    simp only [bind_ok]
    rw [f10_l0_eq m hl k (i + 1) _ (by omega) (by simp; omega)]
    simp [-List.getElem_cons_drop]
theorem marks_len (l : List Frame) : (marksOf l).length ≤ l.length := by simp only [marksOf, List.length_map]; exact List.length_filter_le _ _
theorem winds_len (l : List Frame) : (windsOf l).length ≤ l.length := by simp only [windsOf, List.length_map]; exact List.length_filter_le _ _
theorem marks_winds (l : List Frame) : (marksOf l).map (·.id) = windsOf l := by simp [-List.getElem_cons_drop, marksOf, windsOf]
theorem f10_eq (fs : List Frame) (hl : fs.length * 40 ≤ 140737488355328) : f10 fs = some (windsOf fs) := by
  unfold f10
  rw [f23_eq fs hl]
  simp only [bind_ok]
  have hm := marks_len fs
  have := f10_l0_eq (marksOf fs) (by omega) (marksOf fs).length 0 [] (by omega) (by simp)
  rw [show ((0 : Nat) : Int) = 0 from rfl] at this
  rw [this]
  simp only [bind_ok, List.drop_zero, List.nil_append, marks_winds]
theorem f12_l0_eq (fs : List Frame) (hl : fs.length * 40 ≤ 140737488355328) : ∀ (k i : Nat) (out : List Int), i + k = fs.length → out.length ≤ i → f12_l0 fs out i = some (out ++ windsOf (fs.drop i))
  | 0, i, out, hk, ho => by
    rw [f12_l0, if_neg (by simp; omega), List.drop_of_length_le (by omega)]; simp [-List.getElem_cons_drop, windsOf]
  | k + 1, i, out, hk, ho => by
    have h1 : i < fs.length := by omega
    rw [f12_l0, if_pos (by simp; omega), rd_nat h1]
    simp only [bind_ok]
    rw [w64 (by omega) (by omega), show ((i : Int) + 1) = ((i + 1 : Nat) : Int) by omega, List.drop_eq_getElem_cons h1]
    by_cases he : fs[i].Kind = 2
    · rw [if_pos (by simp [-List.getElem_cons_drop, he]), ap_of (by simp; omega)]
      simp only [bind_ok]
      rw [f12_l0_eq fs hl k (i + 1) _ (by omega) (by simp; omega)]
      simp [-List.getElem_cons_drop, windsOf, he]
    · rw [if_neg (by simp [-List.getElem_cons_drop, he])]
      simp only [bind_ok]
      rw [f12_l0_eq fs hl k (i + 1) _ (by omega) (by omega)]
      simp [-List.getElem_cons_drop, windsOf, he]
theorem f12_eq (fs : List Frame) (hl : fs.length * 40 ≤ 140737488355328) : f12 fs = some (windsOf fs) := by
  unfold f12
  have := f12_l0_eq fs hl fs.length 0 [] (by omega) (by simp)
  rw [show ((0 : Nat) : Int) = 0 from rfl] at this
  rw [this]; simp [-List.getElem_cons_drop, bind_ok]

/-! ### what is common -/
open WindW (lcp lcp_nil_r lcp_le)
theorem f24_l0_eq (a b : List Mark) (hl : a.length ≤ 140737488355328) : ∀ (k i : Nat), i + k = a.length → f24_l0 a b i = some ((i + lcp ((a.drop i).map (·.id)) ((b.drop i).map (·.id)) : Nat) : Int)
  | 0, i, hk => by
    rw [f24_l0, if_neg (by simp; split <;> omega), List.drop_of_length_le (i := i) (l := a) (by omega)]; simp [-List.getElem_cons_drop, lcp]
  | k + 1, i, hk => by
    have h1 : i < a.length := by omega
    by_cases h2 : i < b.length
    · rw [f24_l0, if_pos (by simp; split <;> omega), rd_nat h1, rd_nat h2]
      simp only [bind_ok]
      rw [w64 (by omega) (by omega), show ((i : Int) + 1) = ((i + 1 : Nat) : Int) by omega, List.drop_eq_getElem_cons h1, List.drop_eq_getElem_cons h2]
      by_cases he : a[i].id = b[i].id
      · rw [if_pos (by simp [-List.getElem_cons_drop, he]), f24_l0_eq a b hl k (i + 1) (by omega)]
        simp only [List.map_cons, lcp, he, if_true]
        congr 1; omega
      · rw [if_neg (by simp [-List.getElem_cons_drop, he])]
        simp [-List.getElem_cons_drop, lcp, he]
    · rw [f24_l0, if_neg (by simp; split <;> omega), List.drop_of_length_le (i := i) (l := b) (by omega)]
      simp [-List.getElem_cons_drop, lcp_nil_r]
theorem f13_eq (a b : List Frame) (ha : a.length * 40 ≤ 140737488355328) (hb : b.length * 40 ≤ 140737488355328) : f13 a b = some (lcp (windsOf a) (windsOf b) : Int) := by
  unfold f13
  rw [f23_eq a ha, f23_eq b hb]
  simp only [bind_ok]
  unfold f24
  have hm := marks_len a
  have := f24_l0_eq (marksOf a) (marksOf b) (by omega) (marksOf a).length 0 (by omega)
  rw [show ((0 : Nat) : Int) = 0 from rfl] at this
  rw [this]
  simp only [bind_ok, List.drop_zero, marks_winds, Nat.zero_add]
theorem f14_l0_eq (a b : List Int) (hl : a.length ≤ 140737488355328) : ∀ (k i : Nat), i + k = a.length → f14_l0 a b i = some ((i + lcp (a.drop i) (b.drop i) : Nat) : Int)
  | 0, i, hk => by
    rw [f14_l0, if_neg (by simp; omega), List.drop_of_length_le (i := i) (l := a) (by omega)]; simp [-List.getElem_cons_drop, lcp]
  | k + 1, i, hk => by
    have h1 : i < a.length := by omega
    rw [f14_l0, if_pos (by simp; omega)]
    by_cases h2 : i < b.length
    · rw [if_pos (by simp; omega), rd_nat h1, rd_nat h2]
      simp only [bind_ok]
      rw [w64 (by omega) (by omega), show ((i : Int) + 1) = ((i + 1 : Nat) : Int) by omega, List.drop_eq_getElem_cons h1, List.drop_eq_getElem_cons h2]
      by_cases he : a[i] = b[i]
      · rw [if_pos (by simp [-List.getElem_cons_drop, he]), f14_l0_eq a b hl k (i + 1) (by omega)]
        simp only [lcp, he, if_true]
        congr 1; omega
      · rw [if_neg (by simp [-List.getElem_cons_drop, he])]
        simp [-List.getElem_cons_drop, lcp, he]
    · rw [if_neg (by simp; omega), List.drop_of_length_le (i := i) (l := b) (by omega)]
      simp [-List.getElem_cons_drop, lcp_nil_r]
theorem f14_eq (a b : List Frame) (ha : a.length * 40 ≤ 140737488355328) (hb : b.length * 40 ≤ 140737488355328) : f14 a b = some (lcp (windsOf a) (windsOf b) : Int) := by
  unfold f14
  rw [f12_eq a ha, f12_eq b hb]
  simp only [bind_ok]
  have hm := winds_len a
  have := f14_l0_eq (windsOf a) (windsOf b) (by omega) (windsOf a).length 0 (by omega)
  rw [show ((0 : Nat) : Int) = 0 from rfl] at this
  rw [this]
  simp only [bind_ok, List.drop_zero, Nat.zero_add]

/-! ### frames -/
theorem f11_l0_eq (l : List Frame) (hl : l.length * 40 ≤ 140737488355328) (hh : ∀ f ∈ l, f.Hs.length * 8 ≤ 140737488355328) : ∀ (k i : Nat) (out : List Frame), i + k = l.length → out.length ≤ i → f11_l0 l out i = some (out ++ l.drop i)
  | 0, i, out, hk, ho => by
    rw [f11_l0, if_neg (by simp; omega), List.drop_of_length_le (by omega)]; simp
  | k + 1, i, out, hk, ho => by
    have h1 : i < l.length := by omega
    have h3 := hh l[i] (by simp)
    rw [f11_l0, if_pos (by simp; omega), rd_nat h1]
    simp only [bind_ok]
    rw [w64 (by omega) (by omega), show ((i : Int) + 1) = ((i + 1 : Nat) : Int) by omega, List.drop_eq_getElem_cons h1, ap_of (by simpa using h3)]
    simp only [bind_ok]
    rw [ap_of (by simp; omega)]
    simp only [bind_ok]
    rw [f11_l0_eq l hl hh k (i + 1) _ (by omega) (by simp; omega)]
    simp [-List.getElem_cons_drop]
theorem f11_eq (l : List Frame) (hl : l.length * 40 ≤ 140737488355328) (hh : ∀ f ∈ l, f.Hs.length * 8 ≤ 140737488355328) : f11 l = some l := by
  unfold f11
  have := f11_l0_eq l hl hh l.length 0 [] (by omega) (by simp)
  rw [show ((0 : Nat) : Int) = 0 from rfl] at this
  rw [this]; simp [-List.getElem_cons_drop, bind_ok]
theorem f22_l0_eq (l : List Int) (hl : l.length * 40 ≤ 140737488355328) : ∀ (k i : Nat) (out : List Frame), i + k = l.length → out.length ≤ i → f22_l0 l out i = some (out ++ (l.drop i).map fun n => ⟨2, n, []⟩)
  | 0, i, out, hk, ho => by
    rw [f22_l0, if_neg (by simp; omega), List.drop_of_length_le (by omega)]; simp
  | k + 1, i, out, hk, ho => by
    have h1 : i < l.length := by omega
    rw [f22_l0, if_pos (by simp; omega), rd_nat h1]
    simp only [bind_ok]
    rw [w64 (by omega) (by omega), show ((i : Int) + 1) = ((i + 1 : Nat) : Int) by omega, List.drop_eq_getElem_cons h1, ap_of (by simp; omega)]
    simp only [bind_ok]
    rw [f22_l0_eq l hl k (i + 1) _ (by omega) (by simp; omega)]
    simp [-List.getElem_cons_drop]
theorem f22_eq (l : List Int) (hl : l.length * 40 ≤ 140737488355328) : f22 l = some (l.map fun n => ⟨2, n, []⟩) := by
  unfold f22
  have := f22_l0_eq l hl l.length 0 [] (by omega) (by simp)
  rw [show ((0 : Nat) : Int) = 0 from rfl] at this
  rw [this]; simp [-List.getElem_cons_drop, bind_ok]

/-! ### plans -/
def planOf (a b : List Frame) : Trip := ⟨lcp (windsOf a) (windsOf b), ((windsOf a).drop (lcp (windsOf a) (windsOf b))).reverse, (windsOf b).drop (lcp (windsOf a) (windsOf b))⟩
theorem f16_eq (a b : List Frame) (ha : a.length * 40 ≤ 140737488355328) (hb : b.length * 40 ≤ 140737488355328) : f16 a b = some (planOf a b) := if_pos ⟨ha, hb⟩
theorem f17_l0_eq (a : List Int) (n : Nat) (hn : n ≤ a.length) (hl : a.length * 8 ≤ 140737488355328) : ∀ (k : Nat) (out : List Int), n + k ≤ a.length → out.length + k ≤ a.length → f17_l0 a n out ((n : Int) + k - 1) = some (out ++ ((a.take (n + k)).drop n).reverse)
  | 0, out, hk, ho => by
    rw [f17_l0, if_neg (by simp; omega)]
    simp [-List.getElem_cons_drop]
  | k + 1, out, hk, ho => by
    have h1 : n + k < a.length := by omega
    rw [f17_l0, if_pos (by simp; omega), show ((n : Int) + (k + 1 : Nat) - 1) = ((n + k : Nat) : Int) by omega, rd_nat h1]
    simp only [bind_ok]
    rw [ap_of (by simp; omega)]
    simp only [bind_ok]
    rw [w64 (by omega) (by omega), show (((n + k : Nat) : Int) - 1) = (n : Int) + k - 1 by omega, f17_l0_eq a n hn hl k _ (by omega) (by simp; omega)]
    have e : (a.take (n + (k + 1))).drop n = (a.take (n + k)).drop n ++ [a[n + k]] := by
      rw [show n + (k + 1) = (n + k) + 1 by omega, List.take_succ_eq_append_getElem h1, List.drop_append_of_le_length (by simp; omega)]
    rw [e]; simp
theorem f17_l1_eq (b : List Int) (hl : b.length * 8 ≤ 140737488355328) : ∀ (k i : Nat) (out : List Int), i + k = b.length → out.length ≤ i → f17_l1 b out i = some (out ++ b.drop i)
  | 0, i, out, hk, ho => by
    rw [f17_l1, if_neg (by simp; omega), List.drop_of_length_le (by omega)]; simp
  | k + 1, i, out, hk, ho => by
    have h1 : i < b.length := by omega
    rw [f17_l1, if_pos (by simp; omega), rd_nat h1]
    simp only [bind_ok]
    rw [w64 (by omega) (by omega), show ((i : Int) + 1) = ((i + 1 : Nat) : Int) by omega, List.drop_eq_getElem_cons h1, ap_of (by simp; omega)]
    simp only [bind_ok]
    rw [f17_l1_eq b hl k (i + 1) _ (by omega) (by simp; omega)]
    simp [-List.getElem_cons_drop]
theorem f17_eq (a b : List Frame) (ha : a.length * 40 ≤ 140737488355328) (hb : b.length * 40 ≤ 140737488355328) : f17 a b = some (planOf a b) := by
  unfold f17
  rw [f12_eq a ha, f12_eq b hb, f14_eq a b ha hb]
  simp only [bind_ok]
  have h1 := winds_len a
  have h2 := winds_len b
  obtain ⟨h3, h4⟩ := lcp_le (windsOf a) (windsOf b)
  rw [w64 (by omega) (by omega)]
  have e0 := f17_l0_eq (windsOf a) (lcp (windsOf a) (windsOf b)) h3 (by omega) ((windsOf a).length - lcp (windsOf a) (windsOf b)) [] (by omega) (by simp)
  rw [show ((lcp (windsOf a) (windsOf b) : Nat) : Int) + ((windsOf a).length - lcp (windsOf a) (windsOf b) : Nat) - 1 = ((windsOf a).length : Int) - 1 by omega] at e0
  have e1 := f17_l1_eq (windsOf b) (by omega) ((windsOf b).length - lcp (windsOf a) (windsOf b)) (lcp (windsOf a) (windsOf b)) [] (by omega) (by simp)
  rw [e0]
  simp only [bind_ok]
  rw [e1]
  simp only [bind_ok, planOf, List.nil_append]
  rw [show lcp (windsOf a) (windsOf b) + ((windsOf a).length - lcp (windsOf a) (windsOf b)) = (windsOf a).length by omega, List.take_length]
theorem f15_eq (a b : Trip) (h1 : a.Out.length ≤ 140737488355328) (h2 : a.In.length ≤ 140737488355328) : f15 a b = some (decide (a = b)) := by
  unfold f15
  obtain ⟨c, o, i⟩ := a
  obtain ⟨c', o', i'⟩ := b
  simp only at h1 h2 ⊢
  by_cases hc : c = c'
  · rw [if_pos (by simp [-List.getElem_cons_drop, hc]), f9_eq _ _ h1]
    simp only [bind_ok]
    by_cases ho : o = o'
    · rw [if_pos (by simp [-List.getElem_cons_drop, ho]), f9_eq _ _ h2]
      simp only [bind_ok]
      by_cases hi : i = i' <;> simp [-List.getElem_cons_drop, hc, ho, hi]
    · rw [if_neg (by simp [-List.getElem_cons_drop, ho])]
      simp [-List.getElem_cons_drop, ho, bind_ok]
  · rw [if_neg (by simp [-List.getElem_cons_drop, hc])]
    simp [-List.getElem_cons_drop, hc, bind_ok]

/-! ### rides -/
def ride (out : List Int) : List Int → Option (List Int)
  | [] => some out
  | x :: xs => if out.getLast? = some x then ride out.dropLast xs else none
def outc : Option (List Int) → Ou (List Int × Int) (List Int)
  | some o => .nxt o
  | none => .ret ([], 150)
theorem cut_last {out : List Int} (h : 0 < out.length) : cutL out 0 (((out.length - 1 : Nat) : Int)) = some out.dropLast := by
  unfold cutL
  rw [if_pos (by simp)]
  simp [-List.getElem_cons_drop, List.dropLast_eq_take]
theorem last_get {out : List Int} (h : 0 < out.length) : out.getLast? = some (out[out.length - 1]'(by omega)) := by
  rw [List.getLast?_eq_getElem?]; simp [-List.getElem_cons_drop, h]
theorem f18_l0_eq (t : Trip) (hl : t.Out.length ≤ 140737488355328) : ∀ (k i : Nat) (out : List Int), i + k = t.Out.length → out.length ≤ 140737488355328 → f18_l0 t out i = some (outc (ride out (t.Out.drop i)))
  | 0, i, out, hk, ho => by
    rw [f18_l0, if_neg (by simp; omega), List.drop_of_length_le (by omega)]; rfl
  | k + 1, i, out, hk, ho => by
    have h1 : i < t.Out.length := by omega
    rw [f18_l0, if_pos (by simp; omega), rd_nat h1]
    simp only [bind_ok]
    rw [List.drop_eq_getElem_cons h1, w64 (by omega) (by omega)]
    by_cases h0 : out.length = 0
    · have : out = [] := List.eq_nil_of_length_eq_zero h0
      subst this
      rw [if_pos (by simp)]; rfl
    · rw [if_neg (by simp; omega), show ((out.length : Int) - 1) = ((out.length - 1 : Nat) : Int) by omega, rd_nat (by omega : out.length - 1 < out.length)]
      simp only [bind_ok]
      have hg := last_get (out := out) (by omega)
      by_cases he : out[out.length - 1]'(by omega) = t.Out[i]
      · rw [if_neg (by simp [-List.getElem_cons_drop, he]), cut_last (by omega)]
        simp only [bind_ok]
        rw [w64 (by omega) (by omega), show ((i : Int) + 1) = ((i + 1 : Nat) : Int) by omega, f18_l0_eq t hl k (i + 1) _ (by omega) (by simp; omega)]
        simp only [ride, hg, he, if_true]
      · rw [if_pos (by simp [-List.getElem_cons_drop, he])]
        simp only [ride, hg, Option.some.injEq, he, if_false, outc]
theorem f19_l0_eq (t : Trip) (hl : t.Out.length ≤ 140737488355328) : ∀ (k i : Nat) (out : List Int), i + k = t.Out.length → out.length ≤ 140737488355328 → f19_l0 t out i = some (outc (ride out (t.Out.drop i)))
  | 0, i, out, hk, ho => by
    rw [f19_l0, if_neg (by simp; omega), List.drop_of_length_le (by omega)]; rfl
  | k + 1, i, out, hk, ho => by
    have h1 : i < t.Out.length := by omega
    rw [f19_l0, if_pos (by simp; omega), List.drop_eq_getElem_cons h1, w64 (by omega) (by omega)]
    by_cases h0 : out.length = 0
    · have : out = [] := List.eq_nil_of_length_eq_zero h0
      subst this
      rw [if_pos (by simp)]; rfl
    · rw [if_neg (by simp only [beq_iff_eq]; omega), show ((out.length : Int) - 1) = ((out.length - 1 : Nat) : Int) by omega, rd_nat (by omega : out.length - 1 < out.length)]
      simp only [bind_ok]
      rw [rd_nat h1]
      simp only [bind_ok]
      have hg := last_get (out := out) (by omega)
      by_cases he : out[out.length - 1]'(by omega) = t.Out[i]
      · rw [if_neg (by simp [-List.getElem_cons_drop, he]), cut_last (by omega)]
        simp only [bind_ok]
        rw [w64 (by omega) (by omega), show ((i : Int) + 1) = ((i + 1 : Nat) : Int) by omega, f19_l0_eq t hl k (i + 1) _ (by omega) (by simp; omega)]
        simp only [ride, hg, he, if_true]
      · rw [if_pos (by simp [-List.getElem_cons_drop, he])]
        simp only [ride, hg, Option.some.injEq, he, if_false, outc]
def rideOf (at_ : List Int) (t : Trip) : List Int × Int := match ride at_ t.Out with
  | some o => if (o.length : Int) = t.Common then (o ++ t.In, 0) else ([], 150)
  | none => ([], 150)
theorem ride_len : ∀ (xs out o : List Int), ride out xs = some o → o.length ≤ out.length
  | [], out, o, h => by simp [-List.getElem_cons_drop, ride] at h; subst h; exact Nat.le_refl _
  | x :: xs, out, o, h => by
    simp only [ride] at h
    split at h
    · have := ride_len xs _ _ h; simp at this; omega
    · cases h
theorem f18_eq (at_ : List Int) (t : Trip) (h1 : at_.length * 8 ≤ 140737488355328) (h2 : t.Out.length ≤ 140737488355328) (h3 : ∀ o, ride at_ t.Out = some o → (o.length : Int) = t.Common → (o.length + t.In.length) * 8 ≤ 140737488355328) : f18 at_ t = some (rideOf at_ t) := by
  unfold f18 f25
  rw [if_pos (by omega)]
  simp only [bind_ok]
  have := f18_l0_eq t h2 t.Out.length 0 at_ (by omega) (by omega)
  rw [show ((0 : Nat) : Int) = 0 from rfl, List.drop_zero] at this
  rw [this]
  simp only [bind_ok, rideOf]
  cases hr : ride at_ t.Out with
  | none => rfl
  | some o =>
    have hl := ride_len _ _ _ hr
    simp only [outc]
    by_cases hc : (o.length : Int) = t.Common
    · rw [if_neg (by simp [-List.getElem_cons_drop, hc]), ap_of (h3 o hr hc), if_pos hc]; rfl
    · rw [if_pos (by simp [-List.getElem_cons_drop, hc]), if_neg hc]
theorem f19_eq (at_ : List Int) (t : Trip) (h1 : at_.length * 8 ≤ 140737488355328) (h2 : t.Out.length ≤ 140737488355328) (h3 : ∀ o, ride at_ t.Out = some o → (o.length : Int) = t.Common → (o.length + t.In.length) * 8 ≤ 140737488355328) : f19 at_ t = some (rideOf at_ t) := by
  unfold f19
  rw [ap_of (by simp; omega)]
  simp only [bind_ok, List.nil_append]
  have := f19_l0_eq t h2 t.Out.length 0 at_ (by omega) (by omega)
  rw [show ((0 : Nat) : Int) = 0 from rfl, List.drop_zero] at this
  rw [this]
  simp only [bind_ok, rideOf]
  cases hr : ride at_ t.Out with
  | none => rfl
  | some o =>
    have hl := ride_len _ _ _ hr
    simp only [outc]
    by_cases hc : (o.length : Int) = t.Common
    · rw [if_neg (by simp [-List.getElem_cons_drop, hc]), ap_of (h3 o hr hc), if_pos hc]; rfl
    · rw [if_pos (by simp [-List.getElem_cons_drop, hc]), if_neg hc]
end Go.Bx.Wind

/- Layer 15: the laws answer true, in plain Lean. (Own text.) -/
namespace Go.Bx.Wind
set_option linter.unusedVariables false
set_option linter.unusedSimpArgs false
set_option linter.unusedSectionVars false
open WindW (lcp lcp_nil_r lcp_le)
set_option linter.unusedVariables false
set_option linter.unusedSimpArgs false

theorem f8_eq : f8 = some true := by
  have h1 : f22 [1, 2, 3] = some [⟨2, 1, []⟩, ⟨2, 2, []⟩, ⟨2, 3, []⟩] := f22_eq [1, 2, 3] (by decide)
  have h2 : f22 [1, 4, 3] = some [⟨2, 1, []⟩, ⟨2, 4, []⟩, ⟨2, 3, []⟩] := f22_eq [1, 4, 3] (by decide)
  have h3 : f16 [⟨2, 1, []⟩, ⟨2, 2, []⟩, ⟨2, 3, []⟩] [⟨2, 1, []⟩, ⟨2, 4, []⟩, ⟨2, 3, []⟩] = some ⟨1, [3, 2], [4, 3]⟩ := by decide +kernel
  have h4 : f18 [1, 2, 3] ⟨1, [3, 2], [4, 3]⟩ = some ([1, 4, 3], 0) := by
    rw [f18_eq _ _ (by decide) (by decide) (fun o h _ => by have := ride_len _ _ _ h; simp at this; simp; omega)]; decide +kernel
  have h5 : f18 [1, 3, 2] ⟨1, [3, 2], [4, 3]⟩ = some ([], 150) := by
    rw [f18_eq _ _ (by decide) (by decide) (fun o h _ => by have := ride_len _ _ _ h; simp at this; simp; omega)]; decide +kernel
  have h6 : f20 [(⟨1, 0, []⟩ : Frame), (⟨3, 0, [7, 8]⟩ : Frame), (⟨2, 4, []⟩ : Frame)] = some ([7, 8], 1) := by decide +kernel
  unfold f8
  rw [h1, bind_ok, h2, bind_ok, h3, bind_ok, h4, bind_ok, h5, bind_ok, h6, bind_ok, f15_eq _ _ (by decide) (by decide)]
  simp only [decide_true, bind_ok, if_true]
  rw [if_pos (by decide), f9_eq _ _ (by decide)]
  simp only [decide_true, bind_ok, if_true]
  rw [if_pos (by decide), if_pos (by decide), f9_eq _ _ (by decide)]
  simp only [decide_true, bind_ok]

/-- What a law's frames are. -/
def FsOK (l : List Frame) : Prop := l.length * 40 ≤ 140737488355328 ∧ ∀ f ∈ l, f.Hs.length * 8 ≤ 140737488355328

theorem f3_eq (a b : List Frame) (ha : FsOK a) (hb : FsOK b) : f3 a b = some true := by
  unfold f3
  have h1 := winds_len a
  have h2 := winds_len b
  rw [f8_eq, bind_ok, if_neg (by decide), f11_eq a ha.1 ha.2, bind_ok, f10_eq a ha.1, bind_ok, f12_eq a ha.1, bind_ok, f9_eq _ _ (by have := ha.1; omega)]
  simp only [decide_true, bind_ok, if_true]
  rw [f11_eq b hb.1 hb.2, bind_ok, f13_eq a b ha.1 hb.1, bind_ok, f14_eq a b ha.1 hb.1, bind_ok, if_pos (by simp), f16_eq a b ha.1 hb.1, bind_ok, f17_eq a b ha.1 hb.1, bind_ok, f15_eq _ _ (by simp [planOf]; have := ha.1; omega) (by simp [planOf]; have := hb.1; omega)]
  simp only [decide_true, bind_ok]

theorem f21_l0_eq (fs : List Frame) (hl : fs.length * 40 ≤ 140737488355328) : ∀ (k : Nat), k ≤ fs.length → f21_l0 fs ((k : Int) - 1) = some (if (nearFrom fs k).2 = -1 then .nxt () else .ret (nearFrom fs k))
  | 0, hk => by
    rw [f21_l0, if_neg (by simp)]; simp [nearFrom]
  | k + 1, hk => by
    have h1 : k < fs.length := by omega
    rw [f21_l0, if_pos (by simp; try omega), show (((k + 1 : Nat) : Int) - 1) = ((k : Nat) : Int) by omega, rd_nat h1]
    simp only [bind_ok]
    have hg : fs[k]? = some fs[k] := by simp [h1]
    by_cases he : fs[k].Kind = 3
    · rw [if_pos (by simp [he])]
      simp only [nearFrom, hg, he, if_true]
      rw [if_neg (by omega)]
    · rw [if_neg (by simp [he]), w64 (by omega) (by omega), f21_l0_eq fs hl k (by omega)]
      simp only [nearFrom, hg, he, if_false]
theorem nearFrom_m1 (fs : List Frame) : ∀ k, (nearFrom fs k).2 = -1 → nearFrom fs k = ([], -1)
  | 0, h => rfl
  | k + 1, h => by
    unfold nearFrom at h ⊢
    split at h
    · split at h
      · simp at h
      · rename_i he
        simp only [he, if_false]; exact nearFrom_m1 fs k h
    · exact nearFrom_m1 fs k h
theorem f21_eq (fs : List Frame) (hl : fs.length * 40 ≤ 140737488355328) : f21 fs = some (nearFrom fs fs.length) := by
  unfold f21
  rw [w64 (by omega) (by omega), f21_l0_eq fs hl fs.length (Nat.le_refl _)]
  simp only [bind_ok]
  by_cases h : (nearFrom fs fs.length).2 = -1
  · simp only [h, if_true]; rw [nearFrom_m1 fs _ h]
  · simp only [h, if_false]
theorem nearFrom_len (fs : List Frame) (h : ∀ f ∈ fs, f.Hs.length * 8 ≤ 140737488355328) : ∀ k, (nearFrom fs k).1.length * 8 ≤ 140737488355328
  | 0 => by simp [nearFrom]
  | k + 1 => by
    unfold nearFrom
    split
    · rename_i f hf
      split
      · exact h f (List.mem_of_getElem? hf)
      · exact nearFrom_len fs h k
    · exact nearFrom_len fs h k
theorem f5_eq (a : List Frame) (ha : FsOK a) : f5 a = some true := by
  unfold f5
  have h1 := nearFrom_len a ha.2 a.length
  rw [f8_eq, bind_ok, if_neg (by decide), f11_eq a ha.1 ha.2, bind_ok, show f20 a = some (nearFrom a a.length) from if_pos ha, bind_ok, f21_eq a ha.1, bind_ok, f9_eq _ _ (by omega)]
  simp only [decide_true, bind_ok, if_true, beq_self_eq_true]

theorem f4_eq (at_ : List Int) (t : Trip) (h1 : at_.length * 8 ≤ 70368744177664) (h2 : t.Out.length * 8 ≤ 140737488355328) (h3 : t.In.length * 8 ≤ 70368744177664) : f4 at_ t = some true := by
  unfold f4
  have hr : ∀ o, ride at_ t.Out = some o → (o.length : Int) = t.Common → (o.length + t.In.length) * 8 ≤ 140737488355328 := fun o h _ => by have := ride_len _ _ _ h; omega
  have hlen : (rideOf at_ t).1.length ≤ 140737488355328 := by
    unfold rideOf
    split
    · rename_i o ho
      have := ride_len _ _ _ ho
      split <;> simp; omega
    · simp
  rw [f8_eq, bind_ok, if_neg (by decide), ap_of (by simp; omega), bind_ok, ap_of (by simp; omega), bind_ok, ap_of (by simp; omega), bind_ok]
  simp only [List.nil_append]
  rw [f18_eq at_ t (by omega) (by omega) hr, bind_ok, f19_eq at_ t (by omega) (by omega) hr, bind_ok, f9_eq _ _ hlen]
  simp only [decide_true, bind_ok, if_true, beq_self_eq_true]

/-! ### the way that is planned arrives -/
theorem lcp_comm : ∀ a b : List Int, lcp a b = lcp b a
  | [], b => by rw [lcp_nil_r]; rfl
  | a :: xs, [] => by rw [lcp_nil_r]; rfl
  | a :: xs, b :: ys => by
    unfold lcp
    by_cases h : a = b
    · rw [if_pos h, if_pos h.symm, lcp_comm xs ys]
    · rw [if_neg h, if_neg (fun e => h e.symm)]
theorem lcp_self : ∀ a : List Int, lcp a a = a.length
  | [] => rfl
  | a :: xs => by unfold lcp; rw [if_pos rfl, lcp_self xs]; rfl
theorem lcp_take : ∀ a b : List Int, a.take (lcp a b) = b.take (lcp a b)
  | [], b => by simp [lcp]
  | a :: xs, [] => by simp [lcp_nil_r]
  | a :: xs, b :: ys => by
    unfold lcp
    by_cases h : a = b
    · rw [if_pos h, List.take_succ_cons, List.take_succ_cons, h, lcp_take xs ys]
    · rw [if_neg h]; rfl
theorem ride_back' : ∀ (r p : List Int), ride (p ++ r.reverse) r = some p
  | [], p => by simp [ride]
  | x :: xs, p => by
    simp only [ride, List.reverse_cons]
    rw [← List.append_assoc, List.getLast?_concat, if_pos rfl, List.dropLast_concat]
    exact ride_back' xs p
theorem ride_back (p q : List Int) : ride (p ++ q) q.reverse = some p := by
  have := ride_back' q.reverse p
  rw [List.reverse_reverse] at this; exact this
theorem arrives (a b : List Frame) : ride (windsOf a) (planOf a b).Out = some ((windsOf a).take (lcp (windsOf a) (windsOf b))) := by
  have h := ride_back ((windsOf a).take (lcp (windsOf a) (windsOf b))) ((windsOf a).drop (lcp (windsOf a) (windsOf b)))
  rw [List.take_append_drop] at h
  exact h
theorem rideOf_plan (a b : List Frame) : rideOf (windsOf a) (planOf a b) = (windsOf b, 0) := by
  unfold rideOf
  rw [arrives]
  simp only
  obtain ⟨h1, h2⟩ := lcp_le (windsOf a) (windsOf b)
  rw [if_pos (by simp [planOf]; omega), lcp_take]
  simp [planOf]
theorem f6_l0_eq (r s : Trip) (hs : s.In = r.Out.reverse) (hl : r.Out.length ≤ 140737488355328) : ∀ (k i : Nat), i + k = r.Out.length → f6_l0 r s i = some (.nxt ())
  | 0, i, hk => by rw [f6_l0, if_neg (by simp; omega)]
  | k + 1, i, hk => by
    have h1 : i < r.Out.length := by omega
    have hsl : s.In.length = r.Out.length := by rw [hs]; simp
    rw [f6_l0, if_pos (by simp; omega), rd_nat h1]
    simp only [bind_ok]
    rw [w64 (x := (s.In.length : Int) - 1) (by omega) (by omega), w64 (by omega) (by omega), show ((s.In.length : Int) - 1 - i) = ((s.In.length - 1 - i : Nat) : Int) by omega, rd_nat (by omega)]
    simp only [bind_ok]
    have he : s.In[s.In.length - 1 - i]'(by omega) = r.Out[i] := by
      simp only [hs, List.getElem_reverse, List.length_reverse]
      congr 1; omega
    rw [he, if_neg (by simp), w64 (by omega) (by omega), show ((i : Int) + 1) = ((i + 1 : Nat) : Int) by omega]
    exact f6_l0_eq r s hs hl k (i + 1) (by omega)
theorem f6_eq (a b : List Frame) (ha : FsOK a) (hb : FsOK b) : f6 a b = some true := by
  unfold f6
  have h1 := winds_len a
  have h2 := winds_len b
  have ha1 := ha.1
  have hb1 := hb.1
  obtain ⟨h3, h4⟩ := lcp_le (windsOf a) (windsOf b)
  obtain ⟨h5, h6⟩ := lcp_le (windsOf b) (windsOf a)
  have hr : ∀ x y : List Frame, x.length * 40 ≤ 140737488355328 → y.length * 40 ≤ 140737488355328 → ∀ o, ride (windsOf x) (planOf x y).Out = some o → (o.length : Int) = (planOf x y).Common → (o.length + (planOf x y).In.length) * 8 ≤ 140737488355328 := fun x y hx hy o h hc => by
    have h1 := winds_len x
    have h2 := winds_len y
    obtain ⟨h3, h4⟩ := lcp_le (windsOf x) (windsOf y)
    simp only [planOf] at hc ⊢
    simp only [List.length_drop]
    omega
  rw [f8_eq, bind_ok, if_neg (by decide), f11_eq a ha.1 ha.2, bind_ok, f10_eq a ha.1, bind_ok, f11_eq b hb.1 hb.2, bind_ok, f10_eq b hb.1, bind_ok, f16_eq a b ha.1 hb.1, bind_ok, f16_eq b a hb.1 ha.1, bind_ok,
    ap_of (by simp; omega), bind_ok, List.nil_append, f18_eq _ _ (by omega) (by simp [planOf]; omega) (hr a b ha.1 hb.1), bind_ok, ap_of (by simp; omega), bind_ok, List.nil_append, f18_eq _ _ (by omega) (by simp [planOf]; omega) (hr b a hb.1 ha.1), bind_ok,
    rideOf_plan, rideOf_plan]
  simp only [bne_self_eq_false, Bool.false_eq_true, if_false]
  rw [f9_eq _ _ (by omega)]
  simp only [decide_true, bind_ok, Bool.not_true, Bool.false_eq_true, if_false]
  rw [f9_eq _ _ (by omega)]
  simp only [decide_true, bind_ok, Bool.not_true, Bool.false_eq_true, if_false]
  have hcm := lcp_comm (windsOf b) (windsOf a)
  rw [if_neg (by simp [planOf, hcm]), if_neg (by simp [planOf, hcm])]
  have e := f6_l0_eq (planOf a b) (planOf b a) (by simp [planOf, hcm]) (by simp [planOf]; omega) (planOf a b).Out.length 0 (by omega)
  rw [show ((0 : Nat) : Int) = 0 from rfl] at e
  rw [e]
  simp only [bind_ok]
  rw [f16_eq a a ha.1 ha.1, bind_ok, if_pos (by simp [planOf, lcp_self])]
  simp [planOf, lcp_self, bind_ok, IntKind.wrap]
  try decide
end Go.Bx.Wind

/- Layer 15: from the given statements to the contracts: what all laws share. (Own text.) -/
namespace Go.Bx.Wind
set_option linter.unusedVariables false
set_option linter.unusedSimpArgs false
set_option linter.unusedSectionVars false
open Go.Proofs Go.Proofs.Ytbbeidhijbemlaa
open Go.ChangeShapes Go.WideShapes Go.ChangeAt Go.RowKit
set_option linter.unusedVariables false

theorem own_ : ownKnob Try.prog.godebug = none := by kernel_rfl
theorem laidOut : laidOutB Try.prog = true := by kernel_rfl

theorem shape_ints {H : Type} {n : Nat} {xs : Cs} {d : DataW H} (h : Shape tab (n + 2) 25 xs d) : ∃ l : List Int, xs = [.sl (l.map (cInt .i64))] ∧ l.length * 8 ≤ reachBytes := by
  obtain ⟨l, h1, h2, _⟩ := shape_slice (T := tab) (t := 25) (e := 3) rfl tab3 (cInt .i64) (fun _ => True) (fun ys y hy => by
    obtain ⟨z, hz, _⟩ := shape_int (T := tab) (t := 3) (k := .i64) rfl hy; exact ⟨z, hz, trivial⟩) h
  exact ⟨l, h1, h2⟩
theorem shape_frame {H : Type} {n : Nat} {xs : Cs} {d : DataW H} (h : Shape tab (n + 3) 44 xs d) : ∃ f : Frame, xs = cFrame f ∧ f.Hs.length * 8 ≤ reachBytes := by
  obtain ⟨ds, h⟩ := shape_struct (T := tab) (t := 44) (fs := [(0, 3), (1, 3), (2, 25)]) rfl h
  obtain ⟨p, q, d0, r, rfl, s0, h⟩ := shapeF_cons h
  obtain ⟨p1, q1, d1, r1, rfl, s1, h⟩ := shapeF_cons h
  obtain ⟨p2, q2, d2, r2, rfl, s2, h⟩ := shapeF_cons h
  obtain rfl := shapeF_nil h
  obtain ⟨k, rfl, _⟩ := shape_int (T := tab) (t := 3) (k := .i64) rfl s0
  obtain ⟨i, rfl, _⟩ := shape_int (T := tab) (t := 3) (k := .i64) rfl s1
  obtain ⟨l, rfl, hl⟩ := shape_ints s2
  exact ⟨⟨k, i, l⟩, rfl, hl⟩
theorem shape_frames {H : Type} {xs : Cs} {d : DataW H} (h : Shape tab 8 22 xs d) : ∃ l : List Frame, xs = [.sl (l.map cFrame)] ∧ FsOK l := by
  obtain ⟨l, h1, h2, h3⟩ := shape_slice (T := tab) (t := 22) (e := 44) rfl tab44 cFrame (fun f => f.Hs.length * 8 ≤ reachBytes) (fun ys y hy => shape_frame hy) h
  exact ⟨l, h1, Nat.le_trans h2 (by decide), fun f hf => Nat.le_trans (h3 f hf) (by decide)⟩
theorem shape_trip {H : Type} {xs : Cs} {d : DataW H} (h : Shape tab 8 31 xs d) : ∃ t : Trip, xs = cTrip t ∧ t.Out.length * 8 ≤ reachBytes ∧ t.In.length * 8 ≤ reachBytes := by
  obtain ⟨ds, h⟩ := shape_struct (T := tab) (t := 31) (fs := [(0, 3), (1, 25), (2, 25)]) rfl h
  obtain ⟨p, q, d0, r, rfl, s0, h⟩ := shapeF_cons h
  obtain ⟨p1, q1, d1, r1, rfl, s1, h⟩ := shapeF_cons h
  obtain ⟨p2, q2, d2, r2, rfl, s2, h⟩ := shapeF_cons h
  obtain rfl := shapeF_nil h
  obtain ⟨k, rfl, _⟩ := shape_int (T := tab) (t := 3) (k := .i64) rfl s0
  obtain ⟨l, rfl, hl⟩ := shape_ints s1
  obtain ⟨m, rfl, hm⟩ := shape_ints s2
  exact ⟨⟨k, l, m⟩, rfl, hl, hm⟩
end Go.Bx.Wind

/- sibyl/sibyllaw15.WindOwn, printed by pf.py. (Own text.) -/
namespace Go.Bx.Wind
set_option linter.unusedVariables false
set_option linter.unusedSimpArgs false
set_option linter.unusedSectionVars false
open Go.Proofs
set_option linter.unusedSimpArgs false
set_option linter.unusedVariables false
set_option maxRecDepth 10000
def f7_l0 (r5 : Trip) (t_1 : List Int) (v : Int) : Option ((List Int)) :=
  if (decide (v < (r5.Out.length : Int))) = true then
    (rd t_1 v >>= fun e19 =>
    f7_l0 r5 (setL t_1 v (-1)) (IntKind.i64.wrap (v + 1)))
  else
    some t_1
  partial_fixpoint

def f7_l1 (r5 : Trip) (t_2 : List Int) (v : Int) : Option ((List Int)) :=
  if (decide (v < (r5.In.length : Int))) = true then
    (rd t_2 v >>= fun e22 =>
    f7_l1 r5 (setL t_2 v (-2)) (IntKind.i64.wrap (v + 1)))
  else
    some t_2
  partial_fixpoint

def f7_l2 (t_1 : List Int) (t_2 : List Int) (i : Int) : Option (Unit) :=
  if (decide (i < 20)) = true then
    (ap 8 t_1 [-3] >>= fun a25 =>
    ap 8 t_2 [-4] >>= fun a26 =>
    f7_l2  a25 a26 (IntKind.i64.wrap (i + 1)))
  else
    some ()
  partial_fixpoint

def f7_l3 (r9 : (List Int) × Int) (l : List Int) (v : Int) : Option (Unit) :=
  if (decide (v < (r9.1.length : Int))) = true then
    (rd l v >>= fun e29 =>
    f7_l3 r9 (setL l v (-5)) (IntKind.i64.wrap (v + 1)))
  else
    some ()
  partial_fixpoint

def f7_l4 (r10 : (List Int) × Int) (hs : List Int) (v : Int) : Option (Unit) :=
  if (decide (v < (r10.1.length : Int))) = true then
    (rd hs v >>= fun e32 =>
    f7_l4 r10 (setL hs v (-6)) (IntKind.i64.wrap (v + 1)))
  else
    some ()
  partial_fixpoint

/-- sibyl/sibyllaw15.WindOwn -/
def f7 (from_ : List Frame) (to : List Frame) : Option (Bool) :=
  f8 >>= fun r1 =>
  if (!r1) = true then
    (some false)
  else
    f11 from_ >>= fun r3 =>
    f11 to >>= fun r4 =>
    f16 r3 r4 >>= fun r5 =>
    f10 r3 >>= fun r6 =>
    ap 8 r6 [77] >>= fun a7 =>
    cutL a7 0 (IntKind.i64.wrap ((a7.length : Int) - 1)) >>= fun p8 =>
    f18 p8 r5 >>= fun r9 =>
    f20 r3 >>= fun r10 =>
    rd a7 (IntKind.i64.wrap ((a7.length : Int) - 1)) >>= fun e11 =>
    if (e11 != 77) = true then
      (some false)
    else
      f12 from_ >>= fun r12 =>
      f9 p8 r12 >>= fun r13 =>
      if (!r13) = true then
        (some false)
      else
        f17 from_ to >>= fun r14 =>
        f15 r5 r14 >>= fun r15 =>
        if (!r15) = true then
          (some false)
        else
          f7_l0 r5 r5.Out 0 >>= fun o17 =>
          f7_l1 r5 r5.In 0 >>= fun o20 =>
          f7_l2 o17 o20 0 >>= fun o23 =>
          f7_l3 r9 r9.1 0 >>= fun o27 =>
          f7_l4 r10 r10.1 0 >>= fun o30 =>
          f21 from_ >>= fun r33 =>
          (if r15 = true then
            (if r13 = true then
              (f9 r10.1 r33.1 >>= fun r35 =>
              if r35 = true then
                (if (r10.2 == r33.2) = true then
                  (some true)
                else
                  some false)
              else
                some false)
            else
              some false)
          else
            some false : Option (Bool)) >>= fun o34 =>
          some o34

noncomputable def f7_ci : CI := (CI.or 8 f8_tbl (CI.or 11 f11_tbl (CI.or 16 f16_tbl (CI.or 10 f10_tbl (CI.or 18 f18_tbl (CI.or 20 f20_tbl (CI.or 12 f12_tbl (CI.or 9 f9_tbl (CI.or 17 f17_tbl (CI.or 15 f15_tbl (CI.or 21 f21_tbl (fun _ _ _ => none))))))))))))
theorem f7_ci_ok (base : Nat) : CIOK E base f7_ci := (or_ok f8_tbl_ok (or_ok f11_tbl_ok (or_ok f16_tbl_ok (or_ok f10_tbl_ok (or_ok f18_tbl_ok (or_ok f20_tbl_ok (or_ok f12_tbl_ok (or_ok f9_tbl_ok (or_ok f17_tbl_ok (or_ok f15_tbl_ok (or_ok f21_tbl_ok no_ok)))))))))))
theorem f7_res : Try.f7.results = #[.tmp 4] := rfl
theorem f7_rt : Try.f7.resultTypes = #[4] := rfl

set_option maxHeartbeats 4000000 in
theorem f7_l0_ok {base : Nat} {c00 : Ctx} (hU : Under E base c00 nilStore) (r5 : Trip) (from_ : List Frame) (to : List Frame) (r3 : List Frame) (r4 : List Frame) (p8 : List Int) (r9 : (List Int) × Int) (r10 : (List Int) × Int) : ∀ (t_1 : List Int) (v : Int) (o17 : (List Int)), f7_l0 r5 t_1 v = some o17 →
    WpL E base c00 nilStore (lb Try.f7 0) ⟨.sl (List.map cFrame from_) :: .sl (List.map cFrame to) :: jj 3 (.row 0 3 0 ((r3).length) :: .row 1 3 0 ((r4).length) :: .ptr 2 0 0 :: .ptr 5 0 0 :: jj 1 (.sl (List.map (cInt .i64) p8) :: .row 8 1 0 ((r9.1).length) :: jj 1 (.row 9 1 0 ((r10.1).length) :: jj 66 (.v (.int .i64 (r5.Out.length : Int)) :: .v (.int .i64 v) :: jj 90 [])))), St [some ⟨3, true, true, List.map cFrame r3⟩, some ⟨3, true, true, List.map cFrame r4⟩, some ⟨3, false, false, [[.v (.int .i64 r5.Common), .row 3 1 0 ((t_1).length), .row 4 1 0 ((r5.In).length)]]⟩, some ⟨1, false, true, List.map (cInt .i64) t_1⟩, some ⟨1, false, true, List.map (cInt .i64) r5.In⟩, some ⟨3, false, false, [[.v (.int .i64 r5.Common), .row 6 1 0 ((r5.Out).length), .row 7 1 0 ((r5.In).length)]]⟩, some ⟨1, true, true, List.map (cInt .i64) r5.Out⟩, some ⟨1, true, true, List.map (cInt .i64) r5.In⟩, some ⟨1, false, true, List.map (cInt .i64) r9.1⟩, some ⟨1, false, true, List.map (cInt .i64) r10.1⟩], none, 0⟩ (fun ex s1 => ex = .exit 0 ∧ Wk base c00 nilStore s1 ⟨.sl (List.map cFrame from_) :: .sl (List.map cFrame to) :: jj 3 (.row 0 3 0 ((r3).length) :: .row 1 3 0 ((r4).length) :: .ptr 2 0 0 :: .ptr 5 0 0 :: jj 1 (.sl (List.map (cInt .i64) p8) :: .row 8 1 0 ((r9.1).length) :: jj 1 (.row 9 1 0 ((r10.1).length) :: jj 158 []))), St [some ⟨3, true, true, List.map cFrame r3⟩, some ⟨3, true, true, List.map cFrame r4⟩, some ⟨3, false, false, [[.v (.int .i64 r5.Common), .row 3 1 0 ((o17).length), .row 4 1 0 ((r5.In).length)]]⟩, some ⟨1, false, true, List.map (cInt .i64) o17⟩, some ⟨1, false, true, List.map (cInt .i64) r5.In⟩, some ⟨3, false, false, [[.v (.int .i64 r5.Common), .row 6 1 0 ((r5.Out).length), .row 7 1 0 ((r5.In).length)]]⟩, some ⟨1, true, true, List.map (cInt .i64) r5.Out⟩, some ⟨1, true, true, List.map (cInt .i64) r5.In⟩, some ⟨1, false, true, List.map (cInt .i64) r9.1⟩, some ⟨1, false, true, List.map (cInt .i64) r10.1⟩], none, 0⟩) := by
  refine f7_l0.partial_correctness r5 (fun t_1 v o17 => WpL E base c00 nilStore (lb Try.f7 0) ⟨.sl (List.map cFrame from_) :: .sl (List.map cFrame to) :: jj 3 (.row 0 3 0 ((r3).length) :: .row 1 3 0 ((r4).length) :: .ptr 2 0 0 :: .ptr 5 0 0 :: jj 1 (.sl (List.map (cInt .i64) p8) :: .row 8 1 0 ((r9.1).length) :: jj 1 (.row 9 1 0 ((r10.1).length) :: jj 66 (.v (.int .i64 (r5.Out.length : Int)) :: .v (.int .i64 v) :: jj 90 [])))), St [some ⟨3, true, true, List.map cFrame r3⟩, some ⟨3, true, true, List.map cFrame r4⟩, some ⟨3, false, false, [[.v (.int .i64 r5.Common), .row 3 1 0 ((t_1).length), .row 4 1 0 ((r5.In).length)]]⟩, some ⟨1, false, true, List.map (cInt .i64) t_1⟩, some ⟨1, false, true, List.map (cInt .i64) r5.In⟩, some ⟨3, false, false, [[.v (.int .i64 r5.Common), .row 6 1 0 ((r5.Out).length), .row 7 1 0 ((r5.In).length)]]⟩, some ⟨1, true, true, List.map (cInt .i64) r5.Out⟩, some ⟨1, true, true, List.map (cInt .i64) r5.In⟩, some ⟨1, false, true, List.map (cInt .i64) r9.1⟩, some ⟨1, false, true, List.map (cInt .i64) r10.1⟩], none, 0⟩ (fun ex s1 => ex = .exit 0 ∧ Wk base c00 nilStore s1 ⟨.sl (List.map cFrame from_) :: .sl (List.map cFrame to) :: jj 3 (.row 0 3 0 ((r3).length) :: .row 1 3 0 ((r4).length) :: .ptr 2 0 0 :: .ptr 5 0 0 :: jj 1 (.sl (List.map (cInt .i64) p8) :: .row 8 1 0 ((r9.1).length) :: jj 1 (.row 9 1 0 ((r10.1).length) :: jj 158 []))), St [some ⟨3, true, true, List.map cFrame r3⟩, some ⟨3, true, true, List.map cFrame r4⟩, some ⟨3, false, false, [[.v (.int .i64 r5.Common), .row 3 1 0 ((o17).length), .row 4 1 0 ((r5.In).length)]]⟩, some ⟨1, false, true, List.map (cInt .i64) o17⟩, some ⟨1, false, true, List.map (cInt .i64) r5.In⟩, some ⟨3, false, false, [[.v (.int .i64 r5.Common), .row 6 1 0 ((r5.Out).length), .row 7 1 0 ((r5.In).length)]]⟩, some ⟨1, true, true, List.map (cInt .i64) r5.Out⟩, some ⟨1, true, true, List.map (cInt .i64) r5.In⟩, some ⟨1, false, true, List.map (cInt .i64) r9.1⟩, some ⟨1, false, true, List.map (cInt .i64) r10.1⟩], none, 0⟩)) ?_
  intro lp__ ih t_1 v o17 h
  refine WpL.stepE (by simp only [Try.f7, lb, Option.getD_some, loopsOf, List.nil_append, List.append_nil, List.cons_append, List.getElem?_cons_zero, List.getElem?_cons_succ]; rfl) ?_
  refine Wp.seq ?_
  refine Wp.region hU (f7_ci_ok _) (by simp (decide := true) (disch := (first | omega | (simp only [List.length_append, List.length_map, List.length_cons, List.length_nil]; omega))) only [evOp, putTm, ↓reduceIte, jj_0, jj_set, jj_get, jj_getD, E_T, E_gl, E_br, tdesc, reduceCtorEq, Nat.reduceAdd, Nat.reduceSub, Nat.reduceLT, Nat.reduceLeDiff, Nat.reduceEqDiff, bxm, tabs, evBin, intBin, strBin, bothNil, constOp, eqCells, tys]; rfl) ?_
  refine thenN ?_
  refine Wp.seq ?_
  refine Wp.cond hU (t := decide (v < (r5.Out.length : Int))) rfl (fun hc18 => ?_) (fun hc18 => ?_)
  · rw [if_t hc18] at h
    refine Wp.skip ?_
    refine thenN ?_
    refine Wp.seq ?_
    refine Wp.block ?_
    refine Wp.seq ?_
    refine Wp.region hU (f7_ci_ok _) (by simp (decide := true) (disch := (first | omega | (simp only [List.length_append, List.length_map, List.length_cons, List.length_nil]; omega))) only [evOp, putTm, ↓reduceIte, jj_0, jj_set, jj_get, jj_getD, E_T, E_gl, E_br, tdesc, reduceCtorEq, Nat.reduceAdd, Nat.reduceSub, Nat.reduceLT, Nat.reduceLeDiff, Nat.reduceEqDiff, bxm, tabs, hc18, tys]; rfl) ?_
    refine thenN ?_
    obtain ⟨e19, he19, h⟩ := bind_some h
    obtain ⟨he19a, he19b, he19c⟩ := rd_some he19
    refine Wp.region hU (f7_ci_ok _) (by simp (decide := true) (disch := (first | omega | (simp only [List.length_append, List.length_map, List.length_cons, List.length_nil]; omega))) only [evOp, putTm, ↓reduceIte, jj_0, jj_set, jj_get, jj_getD, E_T, E_gl, E_br, tdesc, reduceCtorEq, Nat.reduceAdd, Nat.reduceSub, Nat.reduceLT, Nat.reduceLeDiff, Nat.reduceEqDiff, bxm, tabs, fieldPlaceT, evLoad, ldV, ofCells, TD.isAgg, indexAddrAV, evStore, putAt, he19a, he19b, he19c, hc18, tys]; rfl) ?_
    refine blkN ?_
    refine thenN ?_
    refine Wk.wp (s2 := ⟨.sl (List.map cFrame from_) :: .sl (List.map cFrame to) :: jj 3 (.row 0 3 0 ((r3).length) :: .row 1 3 0 ((r4).length) :: .ptr 2 0 0 :: .ptr 5 0 0 :: jj 1 (.sl (List.map (cInt .i64) p8) :: .row 8 1 0 ((r9.1).length) :: jj 1 (.row 9 1 0 ((r10.1).length) :: jj 66 (.v (.int .i64 (r5.Out.length : Int)) :: .v (.int .i64 v) :: jj 90 [])))), St [some ⟨3, true, true, List.map cFrame r3⟩, some ⟨3, true, true, List.map cFrame r4⟩, some ⟨3, false, false, [[.v (.int .i64 r5.Common), .row 3 1 0 ((setL t_1 v (-1)).length), .row 4 1 0 ((r5.In).length)]]⟩, some ⟨1, false, true, List.map (cInt .i64) (setL t_1 v (-1))⟩, some ⟨1, false, true, List.map (cInt .i64) r5.In⟩, some ⟨3, false, false, [[.v (.int .i64 r5.Common), .row 6 1 0 ((r5.Out).length), .row 7 1 0 ((r5.In).length)]]⟩, some ⟨1, true, true, List.map (cInt .i64) r5.Out⟩, some ⟨1, true, true, List.map (cInt .i64) r5.In⟩, some ⟨1, false, true, List.map (cInt .i64) r9.1⟩, some ⟨1, false, true, List.map (cInt .i64) r10.1⟩], none, 0⟩) ?_ ?_
    · try simp only [jjs]
      refine Wk.weak hU [some 0, some 1, some 2, some 3, some 4, some 5, some 6, some 7, some 8, some 9] _ (by decide) ?_ ?_
      · refine .obj rfl ?_ ?_
        · first | exact .same _ _ _ | (refine WO.same_eq ?_; simp only [bxw, tys]; done)
        refine .obj rfl ?_ ?_
        · first | exact .same _ _ _ | (refine WO.same_eq ?_; simp only [bxw, tys]; done)
        refine .obj rfl ?_ ?_
        · refine .mk ?_ (by simp only [bxm, leaf_ptr]) nofun
          refine .cons ?_ .nil
          (repeat' (first | exact WVs.nil | (refine WVs.jjT (by simp only [jj_length, List.length_cons, List.length_nil, Nat.reduceAdd, Nat.reduceLeDiff]) ?_; try simp (decide := true) only [jj_0, jj_drop, List.drop_succ_cons, List.drop_zero, List.drop_nil, Nat.reduceSub, Nat.reduceLeDiff, ↓reduceIte]) | refine WVs.cons ?_ ?_ | (refine WVs.aggW ?_) | (refine WVs.fnW ?_ ?_))) <;> (first | exact WV.junk _ | exact WV.keep rfl | exact WV.row rfl | exact WV.nil rfl | exact WV.nilsl | exact WV.emp rfl | exact WV.empsl | exact WV.ptr rfl | (refine WV.row_eq rfl ?_; simp only [bxw, tys]) | (refine WV.view (k := 3) ?_; simp (decide := true) only [reify, share, fresh1, reduceIte, reduceCtorEq, Nat.reduceAdd, bxm, tys]) | (refine WV.eq ?_ rfl; simp only [bxw, tys]))
        refine .obj rfl ?_ ?_
        · first | exact .same _ _ _ | (refine WO.same_eq ?_; simp only [bxw, tys]; done)
        refine .obj rfl ?_ ?_
        · first | exact .same _ _ _ | (refine WO.same_eq ?_; simp only [bxw, tys]; done)
        refine .obj rfl ?_ ?_
        · refine .mk ?_ (by simp only [bxm, leaf_ptr]) nofun
          refine .cons ?_ .nil
          (repeat' (first | exact WVs.nil | (refine WVs.jjT (by simp only [jj_length, List.length_cons, List.length_nil, Nat.reduceAdd, Nat.reduceLeDiff]) ?_; try simp (decide := true) only [jj_0, jj_drop, List.drop_succ_cons, List.drop_zero, List.drop_nil, Nat.reduceSub, Nat.reduceLeDiff, ↓reduceIte]) | refine WVs.cons ?_ ?_ | (refine WVs.aggW ?_) | (refine WVs.fnW ?_ ?_))) <;> (first | exact WV.junk _ | exact WV.keep rfl | exact WV.row rfl | exact WV.nil rfl | exact WV.nilsl | exact WV.emp rfl | exact WV.empsl | exact WV.ptr rfl | (refine WV.row_eq rfl ?_; simp only [bxw, tys]) | (refine WV.view (k := 3) ?_; simp (decide := true) only [reify, share, fresh1, reduceIte, reduceCtorEq, Nat.reduceAdd, bxm, tys]) | (refine WV.eq ?_ rfl; simp only [bxw, tys]))
        refine .obj rfl ?_ ?_
        · first | exact .same _ _ _ | (refine WO.same_eq ?_; simp only [bxw, tys]; done)
        refine .obj rfl ?_ ?_
        · first | exact .same _ _ _ | (refine WO.same_eq ?_; simp only [bxw, tys]; done)
        refine .obj rfl ?_ ?_
        · first | exact .same _ _ _ | (refine WO.same_eq ?_; simp only [bxw, tys]; done)
        refine .obj rfl ?_ ?_
        · first | exact .same _ _ _ | (refine WO.same_eq ?_; simp only [bxw, tys]; done)
        exact .nil
      · (repeat' (first | exact WVs.nil | (refine WVs.jjT (by simp only [jj_length, List.length_cons, List.length_nil, Nat.reduceAdd, Nat.reduceLeDiff]) ?_; try simp (decide := true) only [jj_0, jj_drop, List.drop_succ_cons, List.drop_zero, List.drop_nil, Nat.reduceSub, Nat.reduceLeDiff, ↓reduceIte]) | refine WVs.cons ?_ ?_ | (refine WVs.aggW ?_) | (refine WVs.fnW ?_ ?_))) <;> (first | exact WV.junk _ | exact WV.keep rfl | exact WV.row rfl | exact WV.nil rfl | exact WV.nilsl | exact WV.emp rfl | exact WV.empsl | exact WV.ptr rfl | (refine WV.row_eq rfl ?_; simp only [bxw, tys]) | (refine WV.view (k := 3) ?_; simp (decide := true) only [reify, share, fresh1, reduceIte, reduceCtorEq, Nat.reduceAdd, bxm, tys]) | (refine WV.eq ?_ rfl; simp only [bxw, tys]))
    refine Wp.region hU (f7_ci_ok _) (by simp (decide := true) (disch := (first | omega | (simp only [List.length_append, List.length_map, List.length_cons, List.length_nil]; omega))) only [evOp, putTm, ↓reduceIte, jj_0, jj_set, jj_get, jj_getD, E_T, E_gl, E_br, tdesc, reduceCtorEq, Nat.reduceAdd, Nat.reduceSub, Nat.reduceLT, Nat.reduceLeDiff, Nat.reduceEqDiff, bxm, tabs, evBin, intBin, strBin, bothNil, constOp, eqCells, hc18, tys]; rfl) ?_
    refine againN ?_
    refine Wk.wpL ?_ (ih (setL t_1 v (-1)) (IntKind.i64.wrap (v + 1)) _ h)
    refine Wk.weak hU [some 0, some 1, some 2, some 3, some 4, some 5, some 6, some 7, some 8, some 9] _ (by decide) ?_ ?_
    · refine .obj rfl ?_ ?_
      · first | exact .same _ _ _ | (refine WO.same_eq ?_; simp only [bxw, tys]; done)
      refine .obj rfl ?_ ?_
      · first | exact .same _ _ _ | (refine WO.same_eq ?_; simp only [bxw, tys]; done)
      refine .obj rfl ?_ ?_
      · refine .mk ?_ (by simp only [bxm, leaf_ptr]) nofun
        refine .cons ?_ .nil
        (repeat' (first | exact WVs.nil | (refine WVs.jjT (by simp only [jj_length, List.length_cons, List.length_nil, Nat.reduceAdd, Nat.reduceLeDiff]) ?_; try simp (decide := true) only [jj_0, jj_drop, List.drop_succ_cons, List.drop_zero, List.drop_nil, Nat.reduceSub, Nat.reduceLeDiff, ↓reduceIte]) | refine WVs.cons ?_ ?_ | (refine WVs.aggW ?_) | (refine WVs.fnW ?_ ?_))) <;> (first | exact WV.junk _ | exact WV.keep rfl | exact WV.row rfl | exact WV.nil rfl | exact WV.nilsl | exact WV.emp rfl | exact WV.empsl | exact WV.ptr rfl | (refine WV.row_eq rfl ?_; simp only [bxw, tys]) | (refine WV.view (k := 3) ?_; simp (decide := true) only [reify, share, fresh1, reduceIte, reduceCtorEq, Nat.reduceAdd, bxm, tys]) | (refine WV.eq ?_ rfl; simp only [bxw, tys]))
      refine .obj rfl ?_ ?_
      · first | exact .same _ _ _ | (refine WO.same_eq ?_; simp only [bxw, tys]; done)
      refine .obj rfl ?_ ?_
      · first | exact .same _ _ _ | (refine WO.same_eq ?_; simp only [bxw, tys]; done)
      refine .obj rfl ?_ ?_
      · refine .mk ?_ (by simp only [bxm, leaf_ptr]) nofun
        refine .cons ?_ .nil
        (repeat' (first | exact WVs.nil | (refine WVs.jjT (by simp only [jj_length, List.length_cons, List.length_nil, Nat.reduceAdd, Nat.reduceLeDiff]) ?_; try simp (decide := true) only [jj_0, jj_drop, List.drop_succ_cons, List.drop_zero, List.drop_nil, Nat.reduceSub, Nat.reduceLeDiff, ↓reduceIte]) | refine WVs.cons ?_ ?_ | (refine WVs.aggW ?_) | (refine WVs.fnW ?_ ?_))) <;> (first | exact WV.junk _ | exact WV.keep rfl | exact WV.row rfl | exact WV.nil rfl | exact WV.nilsl | exact WV.emp rfl | exact WV.empsl | exact WV.ptr rfl | (refine WV.row_eq rfl ?_; simp only [bxw, tys]) | (refine WV.view (k := 3) ?_; simp (decide := true) only [reify, share, fresh1, reduceIte, reduceCtorEq, Nat.reduceAdd, bxm, tys]) | (refine WV.eq ?_ rfl; simp only [bxw, tys]))
      refine .obj rfl ?_ ?_
      · first | exact .same _ _ _ | (refine WO.same_eq ?_; simp only [bxw, tys]; done)
      refine .obj rfl ?_ ?_
      · first | exact .same _ _ _ | (refine WO.same_eq ?_; simp only [bxw, tys]; done)
      refine .obj rfl ?_ ?_
      · first | exact .same _ _ _ | (refine WO.same_eq ?_; simp only [bxw, tys]; done)
      refine .obj rfl ?_ ?_
      · first | exact .same _ _ _ | (refine WO.same_eq ?_; simp only [bxw, tys]; done)
      exact .nil
    · (repeat' (first | exact WVs.nil | (refine WVs.jjT (by simp only [jj_length, List.length_cons, List.length_nil, Nat.reduceAdd, Nat.reduceLeDiff]) ?_; try simp (decide := true) only [jj_0, jj_drop, List.drop_succ_cons, List.drop_zero, List.drop_nil, Nat.reduceSub, Nat.reduceLeDiff, ↓reduceIte]) | refine WVs.cons ?_ ?_ | (refine WVs.aggW ?_) | (refine WVs.fnW ?_ ?_))) <;> (first | exact WV.junk _ | exact WV.keep rfl | exact WV.row rfl | exact WV.nil rfl | exact WV.nilsl | exact WV.emp rfl | exact WV.empsl | exact WV.ptr rfl | (refine WV.row_eq rfl ?_; simp only [bxw, tys]) | (refine WV.view (k := 3) ?_; simp (decide := true) only [reify, share, fresh1, reduceIte, reduceCtorEq, Nat.reduceAdd, bxm, tys]) | (refine WV.eq ?_ rfl; simp only [bxw, tys]))
  · rw [if_f hc18] at h
    refine Wp.exit ?_
    refine thenE ?_
    refine againE ?_
    obtain rfl := Option.some.inj h
    refine ⟨rfl, ?_⟩
    refine Wk.weak hU [some 0, some 1, some 2, some 3, some 4, some 5, some 6, some 7, some 8, some 9] _ (by decide) ?_ ?_
    · refine .obj rfl ?_ ?_
      · first | exact .same _ _ _ | (refine WO.same_eq ?_; simp only [bxw, tys]; done)
      refine .obj rfl ?_ ?_
      · first | exact .same _ _ _ | (refine WO.same_eq ?_; simp only [bxw, tys]; done)
      refine .obj rfl ?_ ?_
      · refine .mk ?_ (by simp only [bxm, leaf_ptr]) nofun
        refine .cons ?_ .nil
        (repeat' (first | exact WVs.nil | (refine WVs.jjT (by simp only [jj_length, List.length_cons, List.length_nil, Nat.reduceAdd, Nat.reduceLeDiff]) ?_; try simp (decide := true) only [jj_0, jj_drop, List.drop_succ_cons, List.drop_zero, List.drop_nil, Nat.reduceSub, Nat.reduceLeDiff, ↓reduceIte]) | refine WVs.cons ?_ ?_ | (refine WVs.aggW ?_) | (refine WVs.fnW ?_ ?_))) <;> (first | exact WV.junk _ | exact WV.keep rfl | exact WV.row rfl | exact WV.nil rfl | exact WV.nilsl | exact WV.emp rfl | exact WV.empsl | exact WV.ptr rfl | (refine WV.row_eq rfl ?_; simp only [bxw, tys]) | (refine WV.view (k := 3) ?_; simp (decide := true) only [reify, share, fresh1, reduceIte, reduceCtorEq, Nat.reduceAdd, bxm, tys]) | (refine WV.eq ?_ rfl; simp only [bxw, tys]))
      refine .obj rfl ?_ ?_
      · first | exact .same _ _ _ | (refine WO.same_eq ?_; simp only [bxw, tys]; done)
      refine .obj rfl ?_ ?_
      · first | exact .same _ _ _ | (refine WO.same_eq ?_; simp only [bxw, tys]; done)
      refine .obj rfl ?_ ?_
      · refine .mk ?_ (by simp only [bxm, leaf_ptr]) nofun
        refine .cons ?_ .nil
        (repeat' (first | exact WVs.nil | (refine WVs.jjT (by simp only [jj_length, List.length_cons, List.length_nil, Nat.reduceAdd, Nat.reduceLeDiff]) ?_; try simp (decide := true) only [jj_0, jj_drop, List.drop_succ_cons, List.drop_zero, List.drop_nil, Nat.reduceSub, Nat.reduceLeDiff, ↓reduceIte]) | refine WVs.cons ?_ ?_ | (refine WVs.aggW ?_) | (refine WVs.fnW ?_ ?_))) <;> (first | exact WV.junk _ | exact WV.keep rfl | exact WV.row rfl | exact WV.nil rfl | exact WV.nilsl | exact WV.emp rfl | exact WV.empsl | exact WV.ptr rfl | (refine WV.row_eq rfl ?_; simp only [bxw, tys]) | (refine WV.view (k := 3) ?_; simp (decide := true) only [reify, share, fresh1, reduceIte, reduceCtorEq, Nat.reduceAdd, bxm, tys]) | (refine WV.eq ?_ rfl; simp only [bxw, tys]))
      refine .obj rfl ?_ ?_
      · first | exact .same _ _ _ | (refine WO.same_eq ?_; simp only [bxw, tys]; done)
      refine .obj rfl ?_ ?_
      · first | exact .same _ _ _ | (refine WO.same_eq ?_; simp only [bxw, tys]; done)
      refine .obj rfl ?_ ?_
      · first | exact .same _ _ _ | (refine WO.same_eq ?_; simp only [bxw, tys]; done)
      refine .obj rfl ?_ ?_
      · first | exact .same _ _ _ | (refine WO.same_eq ?_; simp only [bxw, tys]; done)
      exact .nil
    · (repeat' (first | exact WVs.nil | (refine WVs.jjT (by simp only [jj_length, List.length_cons, List.length_nil, Nat.reduceAdd, Nat.reduceLeDiff]) ?_; try simp (decide := true) only [jj_0, jj_drop, List.drop_succ_cons, List.drop_zero, List.drop_nil, Nat.reduceSub, Nat.reduceLeDiff, ↓reduceIte]) | refine WVs.cons ?_ ?_ | (refine WVs.aggW ?_) | (refine WVs.fnW ?_ ?_))) <;> (first | exact WV.junk _ | exact WV.keep rfl | exact WV.row rfl | exact WV.nil rfl | exact WV.nilsl | exact WV.emp rfl | exact WV.empsl | exact WV.ptr rfl | (refine WV.row_eq rfl ?_; simp only [bxw, tys]) | (refine WV.view (k := 3) ?_; simp (decide := true) only [reify, share, fresh1, reduceIte, reduceCtorEq, Nat.reduceAdd, bxm, tys]) | (refine WV.eq ?_ rfl; simp only [bxw, tys]))

set_option maxHeartbeats 4000000 in
theorem f7_l1_ok {base : Nat} {c00 : Ctx} (hU : Under E base c00 nilStore) (r5 : Trip) (from_ : List Frame) (to : List Frame) (r3 : List Frame) (r4 : List Frame) (p8 : List Int) (r9 : (List Int) × Int) (r10 : (List Int) × Int) (o17 : (List Int)) : ∀ (t_2 : List Int) (v : Int) (o20 : (List Int)), f7_l1 r5 t_2 v = some o20 →
    WpL E base c00 nilStore (lb Try.f7 1) ⟨.sl (List.map cFrame from_) :: .sl (List.map cFrame to) :: jj 3 (.row 0 3 0 ((r3).length) :: .row 1 3 0 ((r4).length) :: .ptr 2 0 0 :: .ptr 5 0 0 :: jj 1 (.sl (List.map (cInt .i64) p8) :: .row 8 1 0 ((r9.1).length) :: jj 1 (.row 9 1 0 ((r10.1).length) :: jj 77 (.v (.int .i64 (r5.In.length : Int)) :: .v (.int .i64 v) :: jj 79 [])))), St [some ⟨3, true, true, List.map cFrame r3⟩, some ⟨3, true, true, List.map cFrame r4⟩, some ⟨3, false, false, [[.v (.int .i64 r5.Common), .row 3 1 0 ((o17).length), .row 4 1 0 ((t_2).length)]]⟩, some ⟨1, false, true, List.map (cInt .i64) o17⟩, some ⟨1, false, true, List.map (cInt .i64) t_2⟩, some ⟨3, false, false, [[.v (.int .i64 r5.Common), .row 6 1 0 ((r5.Out).length), .row 7 1 0 ((r5.In).length)]]⟩, some ⟨1, true, true, List.map (cInt .i64) r5.Out⟩, some ⟨1, true, true, List.map (cInt .i64) r5.In⟩, some ⟨1, false, true, List.map (cInt .i64) r9.1⟩, some ⟨1, false, true, List.map (cInt .i64) r10.1⟩], none, 0⟩ (fun ex s1 => ex = .exit 2 ∧ Wk base c00 nilStore s1 ⟨.sl (List.map cFrame from_) :: .sl (List.map cFrame to) :: jj 3 (.row 0 3 0 ((r3).length) :: .row 1 3 0 ((r4).length) :: .ptr 2 0 0 :: .ptr 5 0 0 :: jj 1 (.sl (List.map (cInt .i64) p8) :: .row 8 1 0 ((r9.1).length) :: jj 1 (.row 9 1 0 ((r10.1).length) :: jj 158 []))), St [some ⟨3, true, true, List.map cFrame r3⟩, some ⟨3, true, true, List.map cFrame r4⟩, some ⟨3, false, false, [[.v (.int .i64 r5.Common), .row 3 1 0 ((o17).length), .row 4 1 0 ((o20).length)]]⟩, some ⟨1, false, true, List.map (cInt .i64) o17⟩, some ⟨1, false, true, List.map (cInt .i64) o20⟩, some ⟨3, false, false, [[.v (.int .i64 r5.Common), .row 6 1 0 ((r5.Out).length), .row 7 1 0 ((r5.In).length)]]⟩, some ⟨1, true, true, List.map (cInt .i64) r5.Out⟩, some ⟨1, true, true, List.map (cInt .i64) r5.In⟩, some ⟨1, false, true, List.map (cInt .i64) r9.1⟩, some ⟨1, false, true, List.map (cInt .i64) r10.1⟩], none, 0⟩) := by
  refine f7_l1.partial_correctness r5 (fun t_2 v o20 => WpL E base c00 nilStore (lb Try.f7 1) ⟨.sl (List.map cFrame from_) :: .sl (List.map cFrame to) :: jj 3 (.row 0 3 0 ((r3).length) :: .row 1 3 0 ((r4).length) :: .ptr 2 0 0 :: .ptr 5 0 0 :: jj 1 (.sl (List.map (cInt .i64) p8) :: .row 8 1 0 ((r9.1).length) :: jj 1 (.row 9 1 0 ((r10.1).length) :: jj 77 (.v (.int .i64 (r5.In.length : Int)) :: .v (.int .i64 v) :: jj 79 [])))), St [some ⟨3, true, true, List.map cFrame r3⟩, some ⟨3, true, true, List.map cFrame r4⟩, some ⟨3, false, false, [[.v (.int .i64 r5.Common), .row 3 1 0 ((o17).length), .row 4 1 0 ((t_2).length)]]⟩, some ⟨1, false, true, List.map (cInt .i64) o17⟩, some ⟨1, false, true, List.map (cInt .i64) t_2⟩, some ⟨3, false, false, [[.v (.int .i64 r5.Common), .row 6 1 0 ((r5.Out).length), .row 7 1 0 ((r5.In).length)]]⟩, some ⟨1, true, true, List.map (cInt .i64) r5.Out⟩, some ⟨1, true, true, List.map (cInt .i64) r5.In⟩, some ⟨1, false, true, List.map (cInt .i64) r9.1⟩, some ⟨1, false, true, List.map (cInt .i64) r10.1⟩], none, 0⟩ (fun ex s1 => ex = .exit 2 ∧ Wk base c00 nilStore s1 ⟨.sl (List.map cFrame from_) :: .sl (List.map cFrame to) :: jj 3 (.row 0 3 0 ((r3).length) :: .row 1 3 0 ((r4).length) :: .ptr 2 0 0 :: .ptr 5 0 0 :: jj 1 (.sl (List.map (cInt .i64) p8) :: .row 8 1 0 ((r9.1).length) :: jj 1 (.row 9 1 0 ((r10.1).length) :: jj 158 []))), St [some ⟨3, true, true, List.map cFrame r3⟩, some ⟨3, true, true, List.map cFrame r4⟩, some ⟨3, false, false, [[.v (.int .i64 r5.Common), .row 3 1 0 ((o17).length), .row 4 1 0 ((o20).length)]]⟩, some ⟨1, false, true, List.map (cInt .i64) o17⟩, some ⟨1, false, true, List.map (cInt .i64) o20⟩, some ⟨3, false, false, [[.v (.int .i64 r5.Common), .row 6 1 0 ((r5.Out).length), .row 7 1 0 ((r5.In).length)]]⟩, some ⟨1, true, true, List.map (cInt .i64) r5.Out⟩, some ⟨1, true, true, List.map (cInt .i64) r5.In⟩, some ⟨1, false, true, List.map (cInt .i64) r9.1⟩, some ⟨1, false, true, List.map (cInt .i64) r10.1⟩], none, 0⟩)) ?_
  intro lp__ ih t_2 v o20 h
  refine WpL.stepE (by simp only [Try.f7, lb, Option.getD_some, loopsOf, List.nil_append, List.append_nil, List.cons_append, List.getElem?_cons_zero, List.getElem?_cons_succ]; rfl) ?_
  refine Wp.seq ?_
  refine Wp.region hU (f7_ci_ok _) (by simp (decide := true) (disch := (first | omega | (simp only [List.length_append, List.length_map, List.length_cons, List.length_nil]; omega))) only [evOp, putTm, ↓reduceIte, jj_0, jj_set, jj_get, jj_getD, E_T, E_gl, E_br, tdesc, reduceCtorEq, Nat.reduceAdd, Nat.reduceSub, Nat.reduceLT, Nat.reduceLeDiff, Nat.reduceEqDiff, bxm, tabs, evBin, intBin, strBin, bothNil, constOp, eqCells, tys]; rfl) ?_
  refine thenN ?_
  refine Wp.seq ?_
  refine Wp.cond hU (t := decide (v < (r5.In.length : Int))) rfl (fun hc21 => ?_) (fun hc21 => ?_)
  · rw [if_t hc21] at h
    refine Wp.skip ?_
    refine thenN ?_
    refine Wp.seq ?_
    refine Wp.block ?_
    refine Wp.seq ?_
    refine Wp.region hU (f7_ci_ok _) (by simp (decide := true) (disch := (first | omega | (simp only [List.length_append, List.length_map, List.length_cons, List.length_nil]; omega))) only [evOp, putTm, ↓reduceIte, jj_0, jj_set, jj_get, jj_getD, E_T, E_gl, E_br, tdesc, reduceCtorEq, Nat.reduceAdd, Nat.reduceSub, Nat.reduceLT, Nat.reduceLeDiff, Nat.reduceEqDiff, bxm, tabs, hc21, tys]; rfl) ?_
    refine thenN ?_
    obtain ⟨e22, he22, h⟩ := bind_some h
    obtain ⟨he22a, he22b, he22c⟩ := rd_some he22
    refine Wp.region hU (f7_ci_ok _) (by simp (decide := true) (disch := (first | omega | (simp only [List.length_append, List.length_map, List.length_cons, List.length_nil]; omega))) only [evOp, putTm, ↓reduceIte, jj_0, jj_set, jj_get, jj_getD, E_T, E_gl, E_br, tdesc, reduceCtorEq, Nat.reduceAdd, Nat.reduceSub, Nat.reduceLT, Nat.reduceLeDiff, Nat.reduceEqDiff, bxm, tabs, fieldPlaceT, evLoad, ldV, ofCells, TD.isAgg, indexAddrAV, evStore, putAt, he22a, he22b, he22c, hc21, tys]; rfl) ?_
    refine blkN ?_
    refine thenN ?_
    refine Wk.wp (s2 := ⟨.sl (List.map cFrame from_) :: .sl (List.map cFrame to) :: jj 3 (.row 0 3 0 ((r3).length) :: .row 1 3 0 ((r4).length) :: .ptr 2 0 0 :: .ptr 5 0 0 :: jj 1 (.sl (List.map (cInt .i64) p8) :: .row 8 1 0 ((r9.1).length) :: jj 1 (.row 9 1 0 ((r10.1).length) :: jj 77 (.v (.int .i64 (r5.In.length : Int)) :: .v (.int .i64 v) :: jj 79 [])))), St [some ⟨3, true, true, List.map cFrame r3⟩, some ⟨3, true, true, List.map cFrame r4⟩, some ⟨3, false, false, [[.v (.int .i64 r5.Common), .row 3 1 0 ((o17).length), .row 4 1 0 ((setL t_2 v (-2)).length)]]⟩, some ⟨1, false, true, List.map (cInt .i64) o17⟩, some ⟨1, false, true, List.map (cInt .i64) (setL t_2 v (-2))⟩, some ⟨3, false, false, [[.v (.int .i64 r5.Common), .row 6 1 0 ((r5.Out).length), .row 7 1 0 ((r5.In).length)]]⟩, some ⟨1, true, true, List.map (cInt .i64) r5.Out⟩, some ⟨1, true, true, List.map (cInt .i64) r5.In⟩, some ⟨1, false, true, List.map (cInt .i64) r9.1⟩, some ⟨1, false, true, List.map (cInt .i64) r10.1⟩], none, 0⟩) ?_ ?_
    · try simp only [jjs]
      refine Wk.weak hU [some 0, some 1, some 2, some 3, some 4, some 5, some 6, some 7, some 8, some 9] _ (by decide) ?_ ?_
      · refine .obj rfl ?_ ?_
        · first | exact .same _ _ _ | (refine WO.same_eq ?_; simp only [bxw, tys]; done)
        refine .obj rfl ?_ ?_
        · first | exact .same _ _ _ | (refine WO.same_eq ?_; simp only [bxw, tys]; done)
        refine .obj rfl ?_ ?_
        · refine .mk ?_ (by simp only [bxm, leaf_ptr]) nofun
          refine .cons ?_ .nil
          (repeat' (first | exact WVs.nil | (refine WVs.jjT (by simp only [jj_length, List.length_cons, List.length_nil, Nat.reduceAdd, Nat.reduceLeDiff]) ?_; try simp (decide := true) only [jj_0, jj_drop, List.drop_succ_cons, List.drop_zero, List.drop_nil, Nat.reduceSub, Nat.reduceLeDiff, ↓reduceIte]) | refine WVs.cons ?_ ?_ | (refine WVs.aggW ?_) | (refine WVs.fnW ?_ ?_))) <;> (first | exact WV.junk _ | exact WV.keep rfl | exact WV.row rfl | exact WV.nil rfl | exact WV.nilsl | exact WV.emp rfl | exact WV.empsl | exact WV.ptr rfl | (refine WV.row_eq rfl ?_; simp only [bxw, tys]) | (refine WV.view (k := 3) ?_; simp (decide := true) only [reify, share, fresh1, reduceIte, reduceCtorEq, Nat.reduceAdd, bxm, tys]) | (refine WV.eq ?_ rfl; simp only [bxw, tys]))
        refine .obj rfl ?_ ?_
        · first | exact .same _ _ _ | (refine WO.same_eq ?_; simp only [bxw, tys]; done)
        refine .obj rfl ?_ ?_
        · first | exact .same _ _ _ | (refine WO.same_eq ?_; simp only [bxw, tys]; done)
        refine .obj rfl ?_ ?_
        · refine .mk ?_ (by simp only [bxm, leaf_ptr]) nofun
          refine .cons ?_ .nil
          (repeat' (first | exact WVs.nil | (refine WVs.jjT (by simp only [jj_length, List.length_cons, List.length_nil, Nat.reduceAdd, Nat.reduceLeDiff]) ?_; try simp (decide := true) only [jj_0, jj_drop, List.drop_succ_cons, List.drop_zero, List.drop_nil, Nat.reduceSub, Nat.reduceLeDiff, ↓reduceIte]) | refine WVs.cons ?_ ?_ | (refine WVs.aggW ?_) | (refine WVs.fnW ?_ ?_))) <;> (first | exact WV.junk _ | exact WV.keep rfl | exact WV.row rfl | exact WV.nil rfl | exact WV.nilsl | exact WV.emp rfl | exact WV.empsl | exact WV.ptr rfl | (refine WV.row_eq rfl ?_; simp only [bxw, tys]) | (refine WV.view (k := 3) ?_; simp (decide := true) only [reify, share, fresh1, reduceIte, reduceCtorEq, Nat.reduceAdd, bxm, tys]) | (refine WV.eq ?_ rfl; simp only [bxw, tys]))
        refine .obj rfl ?_ ?_
        · first | exact .same _ _ _ | (refine WO.same_eq ?_; simp only [bxw, tys]; done)
        refine .obj rfl ?_ ?_
        · first | exact .same _ _ _ | (refine WO.same_eq ?_; simp only [bxw, tys]; done)
        refine .obj rfl ?_ ?_
        · first | exact .same _ _ _ | (refine WO.same_eq ?_; simp only [bxw, tys]; done)
        refine .obj rfl ?_ ?_
        · first | exact .same _ _ _ | (refine WO.same_eq ?_; simp only [bxw, tys]; done)
        exact .nil
      · (repeat' (first | exact WVs.nil | (refine WVs.jjT (by simp only [jj_length, List.length_cons, List.length_nil, Nat.reduceAdd, Nat.reduceLeDiff]) ?_; try simp (decide := true) only [jj_0, jj_drop, List.drop_succ_cons, List.drop_zero, List.drop_nil, Nat.reduceSub, Nat.reduceLeDiff, ↓reduceIte]) | refine WVs.cons ?_ ?_ | (refine WVs.aggW ?_) | (refine WVs.fnW ?_ ?_))) <;> (first | exact WV.junk _ | exact WV.keep rfl | exact WV.row rfl | exact WV.nil rfl | exact WV.nilsl | exact WV.emp rfl | exact WV.empsl | exact WV.ptr rfl | (refine WV.row_eq rfl ?_; simp only [bxw, tys]) | (refine WV.view (k := 3) ?_; simp (decide := true) only [reify, share, fresh1, reduceIte, reduceCtorEq, Nat.reduceAdd, bxm, tys]) | (refine WV.eq ?_ rfl; simp only [bxw, tys]))
    refine Wp.region hU (f7_ci_ok _) (by simp (decide := true) (disch := (first | omega | (simp only [List.length_append, List.length_map, List.length_cons, List.length_nil]; omega))) only [evOp, putTm, ↓reduceIte, jj_0, jj_set, jj_get, jj_getD, E_T, E_gl, E_br, tdesc, reduceCtorEq, Nat.reduceAdd, Nat.reduceSub, Nat.reduceLT, Nat.reduceLeDiff, Nat.reduceEqDiff, bxm, tabs, evBin, intBin, strBin, bothNil, constOp, eqCells, hc21, tys]; rfl) ?_
    refine againN ?_
    refine Wk.wpL ?_ (ih (setL t_2 v (-2)) (IntKind.i64.wrap (v + 1)) _ h)
    refine Wk.weak hU [some 0, some 1, some 2, some 3, some 4, some 5, some 6, some 7, some 8, some 9] _ (by decide) ?_ ?_
    · refine .obj rfl ?_ ?_
      · first | exact .same _ _ _ | (refine WO.same_eq ?_; simp only [bxw, tys]; done)
      refine .obj rfl ?_ ?_
      · first | exact .same _ _ _ | (refine WO.same_eq ?_; simp only [bxw, tys]; done)
      refine .obj rfl ?_ ?_
      · refine .mk ?_ (by simp only [bxm, leaf_ptr]) nofun
        refine .cons ?_ .nil
        (repeat' (first | exact WVs.nil | (refine WVs.jjT (by simp only [jj_length, List.length_cons, List.length_nil, Nat.reduceAdd, Nat.reduceLeDiff]) ?_; try simp (decide := true) only [jj_0, jj_drop, List.drop_succ_cons, List.drop_zero, List.drop_nil, Nat.reduceSub, Nat.reduceLeDiff, ↓reduceIte]) | refine WVs.cons ?_ ?_ | (refine WVs.aggW ?_) | (refine WVs.fnW ?_ ?_))) <;> (first | exact WV.junk _ | exact WV.keep rfl | exact WV.row rfl | exact WV.nil rfl | exact WV.nilsl | exact WV.emp rfl | exact WV.empsl | exact WV.ptr rfl | (refine WV.row_eq rfl ?_; simp only [bxw, tys]) | (refine WV.view (k := 3) ?_; simp (decide := true) only [reify, share, fresh1, reduceIte, reduceCtorEq, Nat.reduceAdd, bxm, tys]) | (refine WV.eq ?_ rfl; simp only [bxw, tys]))
      refine .obj rfl ?_ ?_
      · first | exact .same _ _ _ | (refine WO.same_eq ?_; simp only [bxw, tys]; done)
      refine .obj rfl ?_ ?_
      · first | exact .same _ _ _ | (refine WO.same_eq ?_; simp only [bxw, tys]; done)
      refine .obj rfl ?_ ?_
      · refine .mk ?_ (by simp only [bxm, leaf_ptr]) nofun
        refine .cons ?_ .nil
        (repeat' (first | exact WVs.nil | (refine WVs.jjT (by simp only [jj_length, List.length_cons, List.length_nil, Nat.reduceAdd, Nat.reduceLeDiff]) ?_; try simp (decide := true) only [jj_0, jj_drop, List.drop_succ_cons, List.drop_zero, List.drop_nil, Nat.reduceSub, Nat.reduceLeDiff, ↓reduceIte]) | refine WVs.cons ?_ ?_ | (refine WVs.aggW ?_) | (refine WVs.fnW ?_ ?_))) <;> (first | exact WV.junk _ | exact WV.keep rfl | exact WV.row rfl | exact WV.nil rfl | exact WV.nilsl | exact WV.emp rfl | exact WV.empsl | exact WV.ptr rfl | (refine WV.row_eq rfl ?_; simp only [bxw, tys]) | (refine WV.view (k := 3) ?_; simp (decide := true) only [reify, share, fresh1, reduceIte, reduceCtorEq, Nat.reduceAdd, bxm, tys]) | (refine WV.eq ?_ rfl; simp only [bxw, tys]))
      refine .obj rfl ?_ ?_
      · first | exact .same _ _ _ | (refine WO.same_eq ?_; simp only [bxw, tys]; done)
      refine .obj rfl ?_ ?_
      · first | exact .same _ _ _ | (refine WO.same_eq ?_; simp only [bxw, tys]; done)
      refine .obj rfl ?_ ?_
      · first | exact .same _ _ _ | (refine WO.same_eq ?_; simp only [bxw, tys]; done)
      refine .obj rfl ?_ ?_
      · first | exact .same _ _ _ | (refine WO.same_eq ?_; simp only [bxw, tys]; done)
      exact .nil
    · (repeat' (first | exact WVs.nil | (refine WVs.jjT (by simp only [jj_length, List.length_cons, List.length_nil, Nat.reduceAdd, Nat.reduceLeDiff]) ?_; try simp (decide := true) only [jj_0, jj_drop, List.drop_succ_cons, List.drop_zero, List.drop_nil, Nat.reduceSub, Nat.reduceLeDiff, ↓reduceIte]) | refine WVs.cons ?_ ?_ | (refine WVs.aggW ?_) | (refine WVs.fnW ?_ ?_))) <;> (first | exact WV.junk _ | exact WV.keep rfl | exact WV.row rfl | exact WV.nil rfl | exact WV.nilsl | exact WV.emp rfl | exact WV.empsl | exact WV.ptr rfl | (refine WV.row_eq rfl ?_; simp only [bxw, tys]) | (refine WV.view (k := 3) ?_; simp (decide := true) only [reify, share, fresh1, reduceIte, reduceCtorEq, Nat.reduceAdd, bxm, tys]) | (refine WV.eq ?_ rfl; simp only [bxw, tys]))
  · rw [if_f hc21] at h
    refine Wp.exit ?_
    refine thenE ?_
    refine againE ?_
    obtain rfl := Option.some.inj h
    refine ⟨rfl, ?_⟩
    refine Wk.weak hU [some 0, some 1, some 2, some 3, some 4, some 5, some 6, some 7, some 8, some 9] _ (by decide) ?_ ?_
    · refine .obj rfl ?_ ?_
      · first | exact .same _ _ _ | (refine WO.same_eq ?_; simp only [bxw, tys]; done)
      refine .obj rfl ?_ ?_
      · first | exact .same _ _ _ | (refine WO.same_eq ?_; simp only [bxw, tys]; done)
      refine .obj rfl ?_ ?_
      · refine .mk ?_ (by simp only [bxm, leaf_ptr]) nofun
        refine .cons ?_ .nil
        (repeat' (first | exact WVs.nil | (refine WVs.jjT (by simp only [jj_length, List.length_cons, List.length_nil, Nat.reduceAdd, Nat.reduceLeDiff]) ?_; try simp (decide := true) only [jj_0, jj_drop, List.drop_succ_cons, List.drop_zero, List.drop_nil, Nat.reduceSub, Nat.reduceLeDiff, ↓reduceIte]) | refine WVs.cons ?_ ?_ | (refine WVs.aggW ?_) | (refine WVs.fnW ?_ ?_))) <;> (first | exact WV.junk _ | exact WV.keep rfl | exact WV.row rfl | exact WV.nil rfl | exact WV.nilsl | exact WV.emp rfl | exact WV.empsl | exact WV.ptr rfl | (refine WV.row_eq rfl ?_; simp only [bxw, tys]) | (refine WV.view (k := 3) ?_; simp (decide := true) only [reify, share, fresh1, reduceIte, reduceCtorEq, Nat.reduceAdd, bxm, tys]) | (refine WV.eq ?_ rfl; simp only [bxw, tys]))
      refine .obj rfl ?_ ?_
      · first | exact .same _ _ _ | (refine WO.same_eq ?_; simp only [bxw, tys]; done)
      refine .obj rfl ?_ ?_
      · first | exact .same _ _ _ | (refine WO.same_eq ?_; simp only [bxw, tys]; done)
      refine .obj rfl ?_ ?_
      · refine .mk ?_ (by simp only [bxm, leaf_ptr]) nofun
        refine .cons ?_ .nil
        (repeat' (first | exact WVs.nil | (refine WVs.jjT (by simp only [jj_length, List.length_cons, List.length_nil, Nat.reduceAdd, Nat.reduceLeDiff]) ?_; try simp (decide := true) only [jj_0, jj_drop, List.drop_succ_cons, List.drop_zero, List.drop_nil, Nat.reduceSub, Nat.reduceLeDiff, ↓reduceIte]) | refine WVs.cons ?_ ?_ | (refine WVs.aggW ?_) | (refine WVs.fnW ?_ ?_))) <;> (first | exact WV.junk _ | exact WV.keep rfl | exact WV.row rfl | exact WV.nil rfl | exact WV.nilsl | exact WV.emp rfl | exact WV.empsl | exact WV.ptr rfl | (refine WV.row_eq rfl ?_; simp only [bxw, tys]) | (refine WV.view (k := 3) ?_; simp (decide := true) only [reify, share, fresh1, reduceIte, reduceCtorEq, Nat.reduceAdd, bxm, tys]) | (refine WV.eq ?_ rfl; simp only [bxw, tys]))
      refine .obj rfl ?_ ?_
      · first | exact .same _ _ _ | (refine WO.same_eq ?_; simp only [bxw, tys]; done)
      refine .obj rfl ?_ ?_
      · first | exact .same _ _ _ | (refine WO.same_eq ?_; simp only [bxw, tys]; done)
      refine .obj rfl ?_ ?_
      · first | exact .same _ _ _ | (refine WO.same_eq ?_; simp only [bxw, tys]; done)
      refine .obj rfl ?_ ?_
      · first | exact .same _ _ _ | (refine WO.same_eq ?_; simp only [bxw, tys]; done)
      exact .nil
    · (repeat' (first | exact WVs.nil | (refine WVs.jjT (by simp only [jj_length, List.length_cons, List.length_nil, Nat.reduceAdd, Nat.reduceLeDiff]) ?_; try simp (decide := true) only [jj_0, jj_drop, List.drop_succ_cons, List.drop_zero, List.drop_nil, Nat.reduceSub, Nat.reduceLeDiff, ↓reduceIte]) | refine WVs.cons ?_ ?_ | (refine WVs.aggW ?_) | (refine WVs.fnW ?_ ?_))) <;> (first | exact WV.junk _ | exact WV.keep rfl | exact WV.row rfl | exact WV.nil rfl | exact WV.nilsl | exact WV.emp rfl | exact WV.empsl | exact WV.ptr rfl | (refine WV.row_eq rfl ?_; simp only [bxw, tys]) | (refine WV.view (k := 3) ?_; simp (decide := true) only [reify, share, fresh1, reduceIte, reduceCtorEq, Nat.reduceAdd, bxm, tys]) | (refine WV.eq ?_ rfl; simp only [bxw, tys]))

set_option maxHeartbeats 4000000 in
theorem f7_l2_ok {base : Nat} {c00 : Ctx} (hU : Under E base c00 nilStore) (from_ : List Frame) (to : List Frame) (r3 : List Frame) (r4 : List Frame) (r5 : Trip) (p8 : List Int) (r9 : (List Int) × Int) (r10 : (List Int) × Int) : ∀ (t_1 : List Int) (t_2 : List Int) (i : Int) (o23 : Unit), f7_l2  t_1 t_2 i = some o23 →
    WpL E base c00 nilStore (lb Try.f7 2) ⟨.sl (List.map cFrame from_) :: .sl (List.map cFrame to) :: jj 3 (.row 0 3 0 ((r3).length) :: .row 1 3 0 ((r4).length) :: .ptr 2 0 0 :: .ptr 5 0 0 :: jj 1 (.sl (List.map (cInt .i64) p8) :: .row 8 1 0 ((r9.1).length) :: jj 1 (.row 9 1 0 ((r10.1).length) :: jj 3 (.v (.int .i64 i) :: jj 154 [])))), St [some ⟨3, true, true, List.map cFrame r3⟩, some ⟨3, true, true, List.map cFrame r4⟩, some ⟨3, false, false, [[.v (.int .i64 r5.Common), .row 3 1 0 ((t_1).length), .row 4 1 0 ((t_2).length)]]⟩, some ⟨1, false, true, List.map (cInt .i64) t_1⟩, some ⟨1, false, true, List.map (cInt .i64) t_2⟩, some ⟨3, false, false, [[.v (.int .i64 r5.Common), .row 6 1 0 ((r5.Out).length), .row 7 1 0 ((r5.In).length)]]⟩, some ⟨1, true, true, List.map (cInt .i64) r5.Out⟩, some ⟨1, true, true, List.map (cInt .i64) r5.In⟩, some ⟨1, false, true, List.map (cInt .i64) r9.1⟩, some ⟨1, false, true, List.map (cInt .i64) r10.1⟩], none, 0⟩ (fun ex s1 => ex = .exit 4 ∧ Wk base c00 nilStore s1 ⟨.sl (List.map cFrame from_) :: .sl (List.map cFrame to) :: jj 3 (.row 0 3 0 ((r3).length) :: .row 1 3 0 ((r4).length) :: jj 1 (.ptr 2 0 0 :: jj 1 (.sl (List.map (cInt .i64) p8) :: .row 5 1 0 ((r9.1).length) :: jj 1 (.row 6 1 0 ((r10.1).length) :: jj 158 [])))), St [some ⟨3, true, true, List.map cFrame r3⟩, some ⟨3, true, true, List.map cFrame r4⟩, some ⟨3, false, false, [[.v (.int .i64 r5.Common), .row 3 1 0 ((r5.Out).length), .row 4 1 0 ((r5.In).length)]]⟩, some ⟨1, true, true, List.map (cInt .i64) r5.Out⟩, some ⟨1, true, true, List.map (cInt .i64) r5.In⟩, some ⟨1, false, true, List.map (cInt .i64) r9.1⟩, some ⟨1, false, true, List.map (cInt .i64) r10.1⟩], none, 0⟩) := by
  refine f7_l2.partial_correctness  (fun t_1 t_2 i o23 => WpL E base c00 nilStore (lb Try.f7 2) ⟨.sl (List.map cFrame from_) :: .sl (List.map cFrame to) :: jj 3 (.row 0 3 0 ((r3).length) :: .row 1 3 0 ((r4).length) :: .ptr 2 0 0 :: .ptr 5 0 0 :: jj 1 (.sl (List.map (cInt .i64) p8) :: .row 8 1 0 ((r9.1).length) :: jj 1 (.row 9 1 0 ((r10.1).length) :: jj 3 (.v (.int .i64 i) :: jj 154 [])))), St [some ⟨3, true, true, List.map cFrame r3⟩, some ⟨3, true, true, List.map cFrame r4⟩, some ⟨3, false, false, [[.v (.int .i64 r5.Common), .row 3 1 0 ((t_1).length), .row 4 1 0 ((t_2).length)]]⟩, some ⟨1, false, true, List.map (cInt .i64) t_1⟩, some ⟨1, false, true, List.map (cInt .i64) t_2⟩, some ⟨3, false, false, [[.v (.int .i64 r5.Common), .row 6 1 0 ((r5.Out).length), .row 7 1 0 ((r5.In).length)]]⟩, some ⟨1, true, true, List.map (cInt .i64) r5.Out⟩, some ⟨1, true, true, List.map (cInt .i64) r5.In⟩, some ⟨1, false, true, List.map (cInt .i64) r9.1⟩, some ⟨1, false, true, List.map (cInt .i64) r10.1⟩], none, 0⟩ (fun ex s1 => ex = .exit 4 ∧ Wk base c00 nilStore s1 ⟨.sl (List.map cFrame from_) :: .sl (List.map cFrame to) :: jj 3 (.row 0 3 0 ((r3).length) :: .row 1 3 0 ((r4).length) :: jj 1 (.ptr 2 0 0 :: jj 1 (.sl (List.map (cInt .i64) p8) :: .row 5 1 0 ((r9.1).length) :: jj 1 (.row 6 1 0 ((r10.1).length) :: jj 158 [])))), St [some ⟨3, true, true, List.map cFrame r3⟩, some ⟨3, true, true, List.map cFrame r4⟩, some ⟨3, false, false, [[.v (.int .i64 r5.Common), .row 3 1 0 ((r5.Out).length), .row 4 1 0 ((r5.In).length)]]⟩, some ⟨1, true, true, List.map (cInt .i64) r5.Out⟩, some ⟨1, true, true, List.map (cInt .i64) r5.In⟩, some ⟨1, false, true, List.map (cInt .i64) r9.1⟩, some ⟨1, false, true, List.map (cInt .i64) r10.1⟩], none, 0⟩)) ?_
  intro lp__ ih t_1 t_2 i o23 h
  refine WpL.stepE (by simp only [Try.f7, lb, Option.getD_some, loopsOf, List.nil_append, List.append_nil, List.cons_append, List.getElem?_cons_zero, List.getElem?_cons_succ]; rfl) ?_
  refine Wp.seq ?_
  refine Wp.seq ?_
  refine Wp.region hU (f7_ci_ok _) (by simp (decide := true) (disch := (first | omega | (simp only [List.length_append, List.length_map, List.length_cons, List.length_nil]; omega))) only [evOp, putTm, ↓reduceIte, jj_0, jj_set, jj_get, jj_getD, E_T, E_gl, E_br, tdesc, reduceCtorEq, Nat.reduceAdd, Nat.reduceSub, Nat.reduceLT, Nat.reduceLeDiff, Nat.reduceEqDiff, bxm, tabs, evBin, intBin, strBin, bothNil, constOp, eqCells, tys]; rfl) ?_
  refine thenN ?_
  refine Wp.cond hU (t := decide (i < 20)) rfl (fun hc24 => ?_) (fun hc24 => ?_)
  · rw [if_t hc24] at h
    refine Wp.skip ?_
    refine thenN ?_
    refine Wp.seq ?_
    refine Wp.block ?_
    refine Wp.seq ?_
    obtain ⟨a25, ha25, h⟩ := bind_some h
    obtain ⟨ha25a, ha25b⟩ := ap_some ha25
    try simp only [List.length_cons, List.length_nil, Nat.zero_add, Nat.add_zero, Nat.reduceAdd] at ha25a
    refine Wp.region hU (f7_ci_ok _) (by simp (decide := true) (disch := (first | omega | (simp only [List.length_append, List.length_map, List.length_cons, List.length_nil]; omega))) only [evOp, putTm, ↓reduceIte, jj_0, jj_set, jj_get, jj_getD, E_T, E_gl, E_br, tdesc, reduceCtorEq, Nat.reduceAdd, Nat.reduceSub, Nat.reduceLT, Nat.reduceLeDiff, Nat.reduceEqDiff, bxm, tabs, fieldPlaceT, evLoad, ldV, ofCells, TD.isAgg, evA, evAppend, elems, flatOf, evStore, putAt, ha25a, hc24, tys]; rfl) ?_
    refine thenN ?_
    refine Wk.wp (s2 := ⟨.sl (List.map cFrame from_) :: .sl (List.map cFrame to) :: jj 3 (.row 0 3 0 ((r3).length) :: .row 1 3 0 ((r4).length) :: .ptr 2 0 0 :: .ptr 5 0 0 :: jj 1 (.sl (List.map (cInt .i64) p8) :: .row 8 1 0 ((r9.1).length) :: jj 1 (.row 9 1 0 ((r10.1).length) :: jj 3 (.v (.int .i64 i) :: jj 154 [])))), St [some ⟨3, true, true, List.map cFrame r3⟩, some ⟨3, true, true, List.map cFrame r4⟩, some ⟨3, false, false, [[.v (.int .i64 r5.Common), .row 3 1 0 ((a25).length), .row 4 1 0 ((t_2).length)]]⟩, some ⟨1, false, true, List.map (cInt .i64) a25⟩, some ⟨1, false, true, List.map (cInt .i64) t_2⟩, some ⟨3, false, false, [[.v (.int .i64 r5.Common), .row 6 1 0 ((r5.Out).length), .row 7 1 0 ((r5.In).length)]]⟩, some ⟨1, true, true, List.map (cInt .i64) r5.Out⟩, some ⟨1, true, true, List.map (cInt .i64) r5.In⟩, some ⟨1, false, true, List.map (cInt .i64) r9.1⟩, some ⟨1, false, true, List.map (cInt .i64) r10.1⟩], none, 0⟩) ?_ ?_
    · try simp only [jjs]
      refine Wk.weak hU [some 0, some 1, some 2, some 11, some 4, some 5, some 6, some 7, some 8, some 9] _ (by decide) ?_ ?_
      · refine .obj rfl ?_ ?_
        · first | exact .same _ _ _ | (refine WO.same_eq ?_; simp only [bxw, ha25b, tys]; done)
        refine .obj rfl ?_ ?_
        · first | exact .same _ _ _ | (refine WO.same_eq ?_; simp only [bxw, ha25b, tys]; done)
        refine .obj rfl ?_ ?_
        · refine .mk ?_ (by simp only [bxm, leaf_ptr]) nofun
          refine .cons ?_ .nil
          (repeat' (first | exact WVs.nil | (refine WVs.jjT (by simp only [jj_length, List.length_cons, List.length_nil, Nat.reduceAdd, Nat.reduceLeDiff]) ?_; try simp (decide := true) only [jj_0, jj_drop, List.drop_succ_cons, List.drop_zero, List.drop_nil, Nat.reduceSub, Nat.reduceLeDiff, ↓reduceIte]) | refine WVs.cons ?_ ?_ | (refine WVs.aggW ?_) | (refine WVs.fnW ?_ ?_))) <;> (first | exact WV.junk _ | exact WV.keep rfl | exact WV.row rfl | exact WV.nil rfl | exact WV.nilsl | exact WV.emp rfl | exact WV.empsl | exact WV.ptr rfl | (refine WV.row_eq rfl ?_; simp only [bxw, ha25b, tys]) | (refine WV.view (k := 3) ?_; simp (decide := true) only [reify, share, fresh1, reduceIte, reduceCtorEq, Nat.reduceAdd, bxm, tys]) | (refine WV.eq ?_ rfl; simp only [bxw, ha25b, tys]))
        refine .obj rfl ?_ ?_
        · first | exact .same _ _ _ | (refine WO.same_eq ?_; simp only [bxw, ha25b, tys]; done)
        refine .obj rfl ?_ ?_
        · first | exact .same _ _ _ | (refine WO.same_eq ?_; simp only [bxw, ha25b, tys]; done)
        refine .obj rfl ?_ ?_
        · refine .mk ?_ (by simp only [bxm, leaf_ptr]) nofun
          refine .cons ?_ .nil
          (repeat' (first | exact WVs.nil | (refine WVs.jjT (by simp only [jj_length, List.length_cons, List.length_nil, Nat.reduceAdd, Nat.reduceLeDiff]) ?_; try simp (decide := true) only [jj_0, jj_drop, List.drop_succ_cons, List.drop_zero, List.drop_nil, Nat.reduceSub, Nat.reduceLeDiff, ↓reduceIte]) | refine WVs.cons ?_ ?_ | (refine WVs.aggW ?_) | (refine WVs.fnW ?_ ?_))) <;> (first | exact WV.junk _ | exact WV.keep rfl | exact WV.row rfl | exact WV.nil rfl | exact WV.nilsl | exact WV.emp rfl | exact WV.empsl | exact WV.ptr rfl | (refine WV.row_eq rfl ?_; simp only [bxw, ha25b, tys]) | (refine WV.view (k := 3) ?_; simp (decide := true) only [reify, share, fresh1, reduceIte, reduceCtorEq, Nat.reduceAdd, bxm, tys]) | (refine WV.eq ?_ rfl; simp only [bxw, ha25b, tys]))
        refine .obj rfl ?_ ?_
        · first | exact .same _ _ _ | (refine WO.same_eq ?_; simp only [bxw, ha25b, tys]; done)
        refine .obj rfl ?_ ?_
        · first | exact .same _ _ _ | (refine WO.same_eq ?_; simp only [bxw, ha25b, tys]; done)
        refine .obj rfl ?_ ?_
        · first | exact .same _ _ _ | (refine WO.same_eq ?_; simp only [bxw, ha25b, tys]; done)
        refine .obj rfl ?_ ?_
        · first | exact .same _ _ _ | (refine WO.same_eq ?_; simp only [bxw, ha25b, tys]; done)
        exact .nil
      · (repeat' (first | exact WVs.nil | (refine WVs.jjT (by simp only [jj_length, List.length_cons, List.length_nil, Nat.reduceAdd, Nat.reduceLeDiff]) ?_; try simp (decide := true) only [jj_0, jj_drop, List.drop_succ_cons, List.drop_zero, List.drop_nil, Nat.reduceSub, Nat.reduceLeDiff, ↓reduceIte]) | refine WVs.cons ?_ ?_ | (refine WVs.aggW ?_) | (refine WVs.fnW ?_ ?_))) <;> (first | exact WV.junk _ | exact WV.keep rfl | exact WV.row rfl | exact WV.nil rfl | exact WV.nilsl | exact WV.emp rfl | exact WV.empsl | exact WV.ptr rfl | (refine WV.row_eq rfl ?_; simp only [bxw, ha25b, tys]) | (refine WV.view (k := 3) ?_; simp (decide := true) only [reify, share, fresh1, reduceIte, reduceCtorEq, Nat.reduceAdd, bxm, tys]) | (refine WV.eq ?_ rfl; simp only [bxw, ha25b, tys]))
    obtain ⟨a26, ha26, h⟩ := bind_some h
    obtain ⟨ha26a, ha26b⟩ := ap_some ha26
    try simp only [List.length_cons, List.length_nil, Nat.zero_add, Nat.add_zero, Nat.reduceAdd] at ha26a
    refine Wp.region hU (f7_ci_ok _) (by simp (decide := true) (disch := (first | omega | (simp only [List.length_append, List.length_map, List.length_cons, List.length_nil]; omega))) only [evOp, putTm, ↓reduceIte, jj_0, jj_set, jj_get, jj_getD, E_T, E_gl, E_br, tdesc, reduceCtorEq, Nat.reduceAdd, Nat.reduceSub, Nat.reduceLT, Nat.reduceLeDiff, Nat.reduceEqDiff, bxm, tabs, fieldPlaceT, evLoad, ldV, ofCells, TD.isAgg, evA, evAppend, elems, flatOf, evStore, putAt, ha26a, hc24, tys]; rfl) ?_
    refine blkN ?_
    refine thenN ?_
    refine Wk.wp (s2 := ⟨.sl (List.map cFrame from_) :: .sl (List.map cFrame to) :: jj 3 (.row 0 3 0 ((r3).length) :: .row 1 3 0 ((r4).length) :: .ptr 2 0 0 :: .ptr 5 0 0 :: jj 1 (.sl (List.map (cInt .i64) p8) :: .row 8 1 0 ((r9.1).length) :: jj 1 (.row 9 1 0 ((r10.1).length) :: jj 3 (.v (.int .i64 i) :: jj 154 [])))), St [some ⟨3, true, true, List.map cFrame r3⟩, some ⟨3, true, true, List.map cFrame r4⟩, some ⟨3, false, false, [[.v (.int .i64 r5.Common), .row 3 1 0 ((a25).length), .row 4 1 0 ((a26).length)]]⟩, some ⟨1, false, true, List.map (cInt .i64) a25⟩, some ⟨1, false, true, List.map (cInt .i64) a26⟩, some ⟨3, false, false, [[.v (.int .i64 r5.Common), .row 6 1 0 ((r5.Out).length), .row 7 1 0 ((r5.In).length)]]⟩, some ⟨1, true, true, List.map (cInt .i64) r5.Out⟩, some ⟨1, true, true, List.map (cInt .i64) r5.In⟩, some ⟨1, false, true, List.map (cInt .i64) r9.1⟩, some ⟨1, false, true, List.map (cInt .i64) r10.1⟩], none, 0⟩) ?_ ?_
    · try simp only [jjs]
      refine Wk.weak hU [some 0, some 1, some 2, some 3, some 11, some 5, some 6, some 7, some 8, some 9] _ (by decide) ?_ ?_
      · refine .obj rfl ?_ ?_
        · first | exact .same _ _ _ | (refine WO.same_eq ?_; simp only [bxw, ha25b, ha26b, tys]; done)
        refine .obj rfl ?_ ?_
        · first | exact .same _ _ _ | (refine WO.same_eq ?_; simp only [bxw, ha25b, ha26b, tys]; done)
        refine .obj rfl ?_ ?_
        · refine .mk ?_ (by simp only [bxm, leaf_ptr]) nofun
          refine .cons ?_ .nil
          (repeat' (first | exact WVs.nil | (refine WVs.jjT (by simp only [jj_length, List.length_cons, List.length_nil, Nat.reduceAdd, Nat.reduceLeDiff]) ?_; try simp (decide := true) only [jj_0, jj_drop, List.drop_succ_cons, List.drop_zero, List.drop_nil, Nat.reduceSub, Nat.reduceLeDiff, ↓reduceIte]) | refine WVs.cons ?_ ?_ | (refine WVs.aggW ?_) | (refine WVs.fnW ?_ ?_))) <;> (first | exact WV.junk _ | exact WV.keep rfl | exact WV.row rfl | exact WV.nil rfl | exact WV.nilsl | exact WV.emp rfl | exact WV.empsl | exact WV.ptr rfl | (refine WV.row_eq rfl ?_; simp only [bxw, ha25b, ha26b, tys]) | (refine WV.view (k := 3) ?_; simp (decide := true) only [reify, share, fresh1, reduceIte, reduceCtorEq, Nat.reduceAdd, bxm, tys]) | (refine WV.eq ?_ rfl; simp only [bxw, ha25b, ha26b, tys]))
        refine .obj rfl ?_ ?_
        · first | exact .same _ _ _ | (refine WO.same_eq ?_; simp only [bxw, ha25b, ha26b, tys]; done)
        refine .obj rfl ?_ ?_
        · first | exact .same _ _ _ | (refine WO.same_eq ?_; simp only [bxw, ha25b, ha26b, tys]; done)
        refine .obj rfl ?_ ?_
        · refine .mk ?_ (by simp only [bxm, leaf_ptr]) nofun
          refine .cons ?_ .nil
          (repeat' (first | exact WVs.nil | (refine WVs.jjT (by simp only [jj_length, List.length_cons, List.length_nil, Nat.reduceAdd, Nat.reduceLeDiff]) ?_; try simp (decide := true) only [jj_0, jj_drop, List.drop_succ_cons, List.drop_zero, List.drop_nil, Nat.reduceSub, Nat.reduceLeDiff, ↓reduceIte]) | refine WVs.cons ?_ ?_ | (refine WVs.aggW ?_) | (refine WVs.fnW ?_ ?_))) <;> (first | exact WV.junk _ | exact WV.keep rfl | exact WV.row rfl | exact WV.nil rfl | exact WV.nilsl | exact WV.emp rfl | exact WV.empsl | exact WV.ptr rfl | (refine WV.row_eq rfl ?_; simp only [bxw, ha25b, ha26b, tys]) | (refine WV.view (k := 3) ?_; simp (decide := true) only [reify, share, fresh1, reduceIte, reduceCtorEq, Nat.reduceAdd, bxm, tys]) | (refine WV.eq ?_ rfl; simp only [bxw, ha25b, ha26b, tys]))
        refine .obj rfl ?_ ?_
        · first | exact .same _ _ _ | (refine WO.same_eq ?_; simp only [bxw, ha25b, ha26b, tys]; done)
        refine .obj rfl ?_ ?_
        · first | exact .same _ _ _ | (refine WO.same_eq ?_; simp only [bxw, ha25b, ha26b, tys]; done)
        refine .obj rfl ?_ ?_
        · first | exact .same _ _ _ | (refine WO.same_eq ?_; simp only [bxw, ha25b, ha26b, tys]; done)
        refine .obj rfl ?_ ?_
        · first | exact .same _ _ _ | (refine WO.same_eq ?_; simp only [bxw, ha25b, ha26b, tys]; done)
        exact .nil
      · (repeat' (first | exact WVs.nil | (refine WVs.jjT (by simp only [jj_length, List.length_cons, List.length_nil, Nat.reduceAdd, Nat.reduceLeDiff]) ?_; try simp (decide := true) only [jj_0, jj_drop, List.drop_succ_cons, List.drop_zero, List.drop_nil, Nat.reduceSub, Nat.reduceLeDiff, ↓reduceIte]) | refine WVs.cons ?_ ?_ | (refine WVs.aggW ?_) | (refine WVs.fnW ?_ ?_))) <;> (first | exact WV.junk _ | exact WV.keep rfl | exact WV.row rfl | exact WV.nil rfl | exact WV.nilsl | exact WV.emp rfl | exact WV.empsl | exact WV.ptr rfl | (refine WV.row_eq rfl ?_; simp only [bxw, ha25b, ha26b, tys]) | (refine WV.view (k := 3) ?_; simp (decide := true) only [reify, share, fresh1, reduceIte, reduceCtorEq, Nat.reduceAdd, bxm, tys]) | (refine WV.eq ?_ rfl; simp only [bxw, ha25b, ha26b, tys]))
    refine Wp.region hU (f7_ci_ok _) (by simp (decide := true) (disch := (first | omega | (simp only [List.length_append, List.length_map, List.length_cons, List.length_nil]; omega))) only [evOp, putTm, ↓reduceIte, jj_0, jj_set, jj_get, jj_getD, E_T, E_gl, E_br, tdesc, reduceCtorEq, Nat.reduceAdd, Nat.reduceSub, Nat.reduceLT, Nat.reduceLeDiff, Nat.reduceEqDiff, bxm, tabs, evBin, intBin, strBin, bothNil, constOp, eqCells, hc24, tys]; rfl) ?_
    refine againN ?_
    refine Wk.wpL ?_ (ih a25 a26 (IntKind.i64.wrap (i + 1)) _ h)
    refine Wk.weak hU [some 0, some 1, some 2, some 3, some 4, some 5, some 6, some 7, some 8, some 9] _ (by decide) ?_ ?_
    · refine .obj rfl ?_ ?_
      · first | exact .same _ _ _ | (refine WO.same_eq ?_; simp only [bxw, ha25b, ha26b, tys]; done)
      refine .obj rfl ?_ ?_
      · first | exact .same _ _ _ | (refine WO.same_eq ?_; simp only [bxw, ha25b, ha26b, tys]; done)
      refine .obj rfl ?_ ?_
      · refine .mk ?_ (by simp only [bxm, leaf_ptr]) nofun
        refine .cons ?_ .nil
        (repeat' (first | exact WVs.nil | (refine WVs.jjT (by simp only [jj_length, List.length_cons, List.length_nil, Nat.reduceAdd, Nat.reduceLeDiff]) ?_; try simp (decide := true) only [jj_0, jj_drop, List.drop_succ_cons, List.drop_zero, List.drop_nil, Nat.reduceSub, Nat.reduceLeDiff, ↓reduceIte]) | refine WVs.cons ?_ ?_ | (refine WVs.aggW ?_) | (refine WVs.fnW ?_ ?_))) <;> (first | exact WV.junk _ | exact WV.keep rfl | exact WV.row rfl | exact WV.nil rfl | exact WV.nilsl | exact WV.emp rfl | exact WV.empsl | exact WV.ptr rfl | (refine WV.row_eq rfl ?_; simp only [bxw, ha25b, ha26b, tys]) | (refine WV.view (k := 3) ?_; simp (decide := true) only [reify, share, fresh1, reduceIte, reduceCtorEq, Nat.reduceAdd, bxm, tys]) | (refine WV.eq ?_ rfl; simp only [bxw, ha25b, ha26b, tys]))
      refine .obj rfl ?_ ?_
      · first | exact .same _ _ _ | (refine WO.same_eq ?_; simp only [bxw, ha25b, ha26b, tys]; done)
      refine .obj rfl ?_ ?_
      · first | exact .same _ _ _ | (refine WO.same_eq ?_; simp only [bxw, ha25b, ha26b, tys]; done)
      refine .obj rfl ?_ ?_
      · refine .mk ?_ (by simp only [bxm, leaf_ptr]) nofun
        refine .cons ?_ .nil
        (repeat' (first | exact WVs.nil | (refine WVs.jjT (by simp only [jj_length, List.length_cons, List.length_nil, Nat.reduceAdd, Nat.reduceLeDiff]) ?_; try simp (decide := true) only [jj_0, jj_drop, List.drop_succ_cons, List.drop_zero, List.drop_nil, Nat.reduceSub, Nat.reduceLeDiff, ↓reduceIte]) | refine WVs.cons ?_ ?_ | (refine WVs.aggW ?_) | (refine WVs.fnW ?_ ?_))) <;> (first | exact WV.junk _ | exact WV.keep rfl | exact WV.row rfl | exact WV.nil rfl | exact WV.nilsl | exact WV.emp rfl | exact WV.empsl | exact WV.ptr rfl | (refine WV.row_eq rfl ?_; simp only [bxw, ha25b, ha26b, tys]) | (refine WV.view (k := 3) ?_; simp (decide := true) only [reify, share, fresh1, reduceIte, reduceCtorEq, Nat.reduceAdd, bxm, tys]) | (refine WV.eq ?_ rfl; simp only [bxw, ha25b, ha26b, tys]))
      refine .obj rfl ?_ ?_
      · first | exact .same _ _ _ | (refine WO.same_eq ?_; simp only [bxw, ha25b, ha26b, tys]; done)
      refine .obj rfl ?_ ?_
      · first | exact .same _ _ _ | (refine WO.same_eq ?_; simp only [bxw, ha25b, ha26b, tys]; done)
      refine .obj rfl ?_ ?_
      · first | exact .same _ _ _ | (refine WO.same_eq ?_; simp only [bxw, ha25b, ha26b, tys]; done)
      refine .obj rfl ?_ ?_
      · first | exact .same _ _ _ | (refine WO.same_eq ?_; simp only [bxw, ha25b, ha26b, tys]; done)
      exact .nil
    · (repeat' (first | exact WVs.nil | (refine WVs.jjT (by simp only [jj_length, List.length_cons, List.length_nil, Nat.reduceAdd, Nat.reduceLeDiff]) ?_; try simp (decide := true) only [jj_0, jj_drop, List.drop_succ_cons, List.drop_zero, List.drop_nil, Nat.reduceSub, Nat.reduceLeDiff, ↓reduceIte]) | refine WVs.cons ?_ ?_ | (refine WVs.aggW ?_) | (refine WVs.fnW ?_ ?_))) <;> (first | exact WV.junk _ | exact WV.keep rfl | exact WV.row rfl | exact WV.nil rfl | exact WV.nilsl | exact WV.emp rfl | exact WV.empsl | exact WV.ptr rfl | (refine WV.row_eq rfl ?_; simp only [bxw, ha25b, ha26b, tys]) | (refine WV.view (k := 3) ?_; simp (decide := true) only [reify, share, fresh1, reduceIte, reduceCtorEq, Nat.reduceAdd, bxm, tys]) | (refine WV.eq ?_ rfl; simp only [bxw, ha25b, ha26b, tys]))
  · rw [if_f hc24] at h
    refine Wp.exit ?_
    refine thenE ?_
    refine againE ?_
    obtain rfl := Option.some.inj h
    refine ⟨rfl, ?_⟩
    refine Wk.weak hU [some 0, some 1, some 5, some 6, some 7, some 8, some 9] _ (by decide) ?_ ?_
    · refine .obj rfl ?_ ?_
      · first | exact .same _ _ _ | (refine WO.same_eq ?_; simp only [bxw, tys]; done)
      refine .obj rfl ?_ ?_
      · first | exact .same _ _ _ | (refine WO.same_eq ?_; simp only [bxw, tys]; done)
      refine .obj rfl ?_ ?_
      · refine .mk ?_ (by simp only [bxm, leaf_ptr]) nofun
        refine .cons ?_ .nil
        (repeat' (first | exact WVs.nil | (refine WVs.jjT (by simp only [jj_length, List.length_cons, List.length_nil, Nat.reduceAdd, Nat.reduceLeDiff]) ?_; try simp (decide := true) only [jj_0, jj_drop, List.drop_succ_cons, List.drop_zero, List.drop_nil, Nat.reduceSub, Nat.reduceLeDiff, ↓reduceIte]) | refine WVs.cons ?_ ?_ | (refine WVs.aggW ?_) | (refine WVs.fnW ?_ ?_))) <;> (first | exact WV.junk _ | exact WV.keep rfl | exact WV.row rfl | exact WV.nil rfl | exact WV.nilsl | exact WV.emp rfl | exact WV.empsl | exact WV.ptr rfl | (refine WV.row_eq rfl ?_; simp only [bxw, tys]) | (refine WV.view (k := 3) ?_; simp (decide := true) only [reify, share, fresh1, reduceIte, reduceCtorEq, Nat.reduceAdd, bxm, tys]) | (refine WV.eq ?_ rfl; simp only [bxw, tys]))
      refine .obj rfl ?_ ?_
      · first | exact .same _ _ _ | (refine WO.same_eq ?_; simp only [bxw, tys]; done)
      refine .obj rfl ?_ ?_
      · first | exact .same _ _ _ | (refine WO.same_eq ?_; simp only [bxw, tys]; done)
      refine .obj rfl ?_ ?_
      · first | exact .same _ _ _ | (refine WO.same_eq ?_; simp only [bxw, tys]; done)
      refine .obj rfl ?_ ?_
      · first | exact .same _ _ _ | (refine WO.same_eq ?_; simp only [bxw, tys]; done)
      exact .nil
    · (repeat' (first | exact WVs.nil | (refine WVs.jjT (by simp only [jj_length, List.length_cons, List.length_nil, Nat.reduceAdd, Nat.reduceLeDiff]) ?_; try simp (decide := true) only [jj_0, jj_drop, List.drop_succ_cons, List.drop_zero, List.drop_nil, Nat.reduceSub, Nat.reduceLeDiff, ↓reduceIte]) | refine WVs.cons ?_ ?_ | (refine WVs.aggW ?_) | (refine WVs.fnW ?_ ?_))) <;> (first | exact WV.junk _ | exact WV.keep rfl | exact WV.row rfl | exact WV.nil rfl | exact WV.nilsl | exact WV.emp rfl | exact WV.empsl | exact WV.ptr rfl | (refine WV.row_eq rfl ?_; simp only [bxw, tys]) | (refine WV.view (k := 3) ?_; simp (decide := true) only [reify, share, fresh1, reduceIte, reduceCtorEq, Nat.reduceAdd, bxm, tys]) | (refine WV.eq ?_ rfl; simp only [bxw, tys]))

set_option maxHeartbeats 4000000 in
theorem f7_l3_ok {base : Nat} {c00 : Ctx} (hU : Under E base c00 nilStore) (r9 : (List Int) × Int) (from_ : List Frame) (to : List Frame) (r3 : List Frame) (r4 : List Frame) (r5 : Trip) (p8 : List Int) (r10 : (List Int) × Int) : ∀ (l : List Int) (v : Int) (o27 : Unit), f7_l3 r9 l v = some o27 →
    WpL E base c00 nilStore (lb Try.f7 3) ⟨.sl (List.map cFrame from_) :: .sl (List.map cFrame to) :: jj 3 (.row 0 3 0 ((r3).length) :: .row 1 3 0 ((r4).length) :: jj 1 (.ptr 2 0 0 :: jj 1 (.sl (List.map (cInt .i64) p8) :: .row 5 1 0 ((l).length) :: jj 1 (.row 6 1 0 ((r10.1).length) :: jj 101 (.v (.int .i64 (r9.1.length : Int)) :: .v (.int .i64 v) :: jj 55 []))))), St [some ⟨3, true, true, List.map cFrame r3⟩, some ⟨3, true, true, List.map cFrame r4⟩, some ⟨3, false, false, [[.v (.int .i64 r5.Common), .row 3 1 0 ((r5.Out).length), .row 4 1 0 ((r5.In).length)]]⟩, some ⟨1, true, true, List.map (cInt .i64) r5.Out⟩, some ⟨1, true, true, List.map (cInt .i64) r5.In⟩, some ⟨1, false, true, List.map (cInt .i64) l⟩, some ⟨1, false, true, List.map (cInt .i64) r10.1⟩], none, 0⟩ (fun ex s1 => ex = .exit 6 ∧ Wk base c00 nilStore s1 ⟨.sl (List.map cFrame from_) :: .sl (List.map cFrame to) :: jj 3 (.row 0 3 0 ((r3).length) :: .row 1 3 0 ((r4).length) :: jj 1 (.ptr 2 0 0 :: jj 1 (.sl (List.map (cInt .i64) p8) :: jj 2 (.row 5 1 0 ((r10.1).length) :: jj 158 [])))), St [some ⟨3, true, true, List.map cFrame r3⟩, some ⟨3, true, true, List.map cFrame r4⟩, some ⟨3, false, false, [[.v (.int .i64 r5.Common), .row 3 1 0 ((r5.Out).length), .row 4 1 0 ((r5.In).length)]]⟩, some ⟨1, true, true, List.map (cInt .i64) r5.Out⟩, some ⟨1, true, true, List.map (cInt .i64) r5.In⟩, some ⟨1, false, true, List.map (cInt .i64) r10.1⟩], none, 0⟩) := by
  refine f7_l3.partial_correctness r9 (fun l v o27 => WpL E base c00 nilStore (lb Try.f7 3) ⟨.sl (List.map cFrame from_) :: .sl (List.map cFrame to) :: jj 3 (.row 0 3 0 ((r3).length) :: .row 1 3 0 ((r4).length) :: jj 1 (.ptr 2 0 0 :: jj 1 (.sl (List.map (cInt .i64) p8) :: .row 5 1 0 ((l).length) :: jj 1 (.row 6 1 0 ((r10.1).length) :: jj 101 (.v (.int .i64 (r9.1.length : Int)) :: .v (.int .i64 v) :: jj 55 []))))), St [some ⟨3, true, true, List.map cFrame r3⟩, some ⟨3, true, true, List.map cFrame r4⟩, some ⟨3, false, false, [[.v (.int .i64 r5.Common), .row 3 1 0 ((r5.Out).length), .row 4 1 0 ((r5.In).length)]]⟩, some ⟨1, true, true, List.map (cInt .i64) r5.Out⟩, some ⟨1, true, true, List.map (cInt .i64) r5.In⟩, some ⟨1, false, true, List.map (cInt .i64) l⟩, some ⟨1, false, true, List.map (cInt .i64) r10.1⟩], none, 0⟩ (fun ex s1 => ex = .exit 6 ∧ Wk base c00 nilStore s1 ⟨.sl (List.map cFrame from_) :: .sl (List.map cFrame to) :: jj 3 (.row 0 3 0 ((r3).length) :: .row 1 3 0 ((r4).length) :: jj 1 (.ptr 2 0 0 :: jj 1 (.sl (List.map (cInt .i64) p8) :: jj 2 (.row 5 1 0 ((r10.1).length) :: jj 158 [])))), St [some ⟨3, true, true, List.map cFrame r3⟩, some ⟨3, true, true, List.map cFrame r4⟩, some ⟨3, false, false, [[.v (.int .i64 r5.Common), .row 3 1 0 ((r5.Out).length), .row 4 1 0 ((r5.In).length)]]⟩, some ⟨1, true, true, List.map (cInt .i64) r5.Out⟩, some ⟨1, true, true, List.map (cInt .i64) r5.In⟩, some ⟨1, false, true, List.map (cInt .i64) r10.1⟩], none, 0⟩)) ?_
  intro lp__ ih l v o27 h
  refine WpL.stepE (by simp only [Try.f7, lb, Option.getD_some, loopsOf, List.nil_append, List.append_nil, List.cons_append, List.getElem?_cons_zero, List.getElem?_cons_succ]; rfl) ?_
  refine Wp.seq ?_
  refine Wp.region hU (f7_ci_ok _) (by simp (decide := true) (disch := (first | omega | (simp only [List.length_append, List.length_map, List.length_cons, List.length_nil]; omega))) only [evOp, putTm, ↓reduceIte, jj_0, jj_set, jj_get, jj_getD, E_T, E_gl, E_br, tdesc, reduceCtorEq, Nat.reduceAdd, Nat.reduceSub, Nat.reduceLT, Nat.reduceLeDiff, Nat.reduceEqDiff, bxm, tabs, evBin, intBin, strBin, bothNil, constOp, eqCells, tys]; rfl) ?_
  refine thenN ?_
  refine Wp.seq ?_
  refine Wp.cond hU (t := decide (v < (r9.1.length : Int))) rfl (fun hc28 => ?_) (fun hc28 => ?_)
  · rw [if_t hc28] at h
    refine Wp.skip ?_
    refine thenN ?_
    refine Wp.seq ?_
    refine Wp.block ?_
    refine Wp.seq ?_
    refine Wp.region hU (f7_ci_ok _) (by simp (decide := true) (disch := (first | omega | (simp only [List.length_append, List.length_map, List.length_cons, List.length_nil]; omega))) only [evOp, putTm, ↓reduceIte, jj_0, jj_set, jj_get, jj_getD, E_T, E_gl, E_br, tdesc, reduceCtorEq, Nat.reduceAdd, Nat.reduceSub, Nat.reduceLT, Nat.reduceLeDiff, Nat.reduceEqDiff, bxm, tabs, hc28, tys]; rfl) ?_
    refine thenN ?_
    obtain ⟨e29, he29, h⟩ := bind_some h
    obtain ⟨he29a, he29b, he29c⟩ := rd_some he29
    refine Wp.region hU (f7_ci_ok _) (by simp (decide := true) (disch := (first | omega | (simp only [List.length_append, List.length_map, List.length_cons, List.length_nil]; omega))) only [evOp, putTm, ↓reduceIte, jj_0, jj_set, jj_get, jj_getD, E_T, E_gl, E_br, tdesc, reduceCtorEq, Nat.reduceAdd, Nat.reduceSub, Nat.reduceLT, Nat.reduceLeDiff, Nat.reduceEqDiff, bxm, tabs, indexAddrAV, evStore, putAt, he29a, he29b, he29c, hc28, tys]; rfl) ?_
    refine blkN ?_
    refine thenN ?_
    refine Wk.wp (s2 := ⟨.sl (List.map cFrame from_) :: .sl (List.map cFrame to) :: jj 3 (.row 0 3 0 ((r3).length) :: .row 1 3 0 ((r4).length) :: jj 1 (.ptr 2 0 0 :: jj 1 (.sl (List.map (cInt .i64) p8) :: .row 5 1 0 ((setL l v (-5)).length) :: jj 1 (.row 6 1 0 ((r10.1).length) :: jj 101 (.v (.int .i64 (r9.1.length : Int)) :: .v (.int .i64 v) :: jj 55 []))))), St [some ⟨3, true, true, List.map cFrame r3⟩, some ⟨3, true, true, List.map cFrame r4⟩, some ⟨3, false, false, [[.v (.int .i64 r5.Common), .row 3 1 0 ((r5.Out).length), .row 4 1 0 ((r5.In).length)]]⟩, some ⟨1, true, true, List.map (cInt .i64) r5.Out⟩, some ⟨1, true, true, List.map (cInt .i64) r5.In⟩, some ⟨1, false, true, List.map (cInt .i64) (setL l v (-5))⟩, some ⟨1, false, true, List.map (cInt .i64) r10.1⟩], none, 0⟩) ?_ ?_
    · try simp only [jjs]
      refine Wk.weak hU [some 0, some 1, some 2, some 3, some 4, some 5, some 6] _ (by decide) ?_ ?_
      · refine .obj rfl ?_ ?_
        · first | exact .same _ _ _ | (refine WO.same_eq ?_; simp only [bxw, tys]; done)
        refine .obj rfl ?_ ?_
        · first | exact .same _ _ _ | (refine WO.same_eq ?_; simp only [bxw, tys]; done)
        refine .obj rfl ?_ ?_
        · refine .mk ?_ (by simp only [bxm, leaf_ptr]) nofun
          refine .cons ?_ .nil
          (repeat' (first | exact WVs.nil | (refine WVs.jjT (by simp only [jj_length, List.length_cons, List.length_nil, Nat.reduceAdd, Nat.reduceLeDiff]) ?_; try simp (decide := true) only [jj_0, jj_drop, List.drop_succ_cons, List.drop_zero, List.drop_nil, Nat.reduceSub, Nat.reduceLeDiff, ↓reduceIte]) | refine WVs.cons ?_ ?_ | (refine WVs.aggW ?_) | (refine WVs.fnW ?_ ?_))) <;> (first | exact WV.junk _ | exact WV.keep rfl | exact WV.row rfl | exact WV.nil rfl | exact WV.nilsl | exact WV.emp rfl | exact WV.empsl | exact WV.ptr rfl | (refine WV.row_eq rfl ?_; simp only [bxw, tys]) | (refine WV.view (k := 3) ?_; simp (decide := true) only [reify, share, fresh1, reduceIte, reduceCtorEq, Nat.reduceAdd, bxm, tys]) | (refine WV.eq ?_ rfl; simp only [bxw, tys]))
        refine .obj rfl ?_ ?_
        · first | exact .same _ _ _ | (refine WO.same_eq ?_; simp only [bxw, tys]; done)
        refine .obj rfl ?_ ?_
        · first | exact .same _ _ _ | (refine WO.same_eq ?_; simp only [bxw, tys]; done)
        refine .obj rfl ?_ ?_
        · first | exact .same _ _ _ | (refine WO.same_eq ?_; simp only [bxw, tys]; done)
        refine .obj rfl ?_ ?_
        · first | exact .same _ _ _ | (refine WO.same_eq ?_; simp only [bxw, tys]; done)
        exact .nil
      · (repeat' (first | exact WVs.nil | (refine WVs.jjT (by simp only [jj_length, List.length_cons, List.length_nil, Nat.reduceAdd, Nat.reduceLeDiff]) ?_; try simp (decide := true) only [jj_0, jj_drop, List.drop_succ_cons, List.drop_zero, List.drop_nil, Nat.reduceSub, Nat.reduceLeDiff, ↓reduceIte]) | refine WVs.cons ?_ ?_ | (refine WVs.aggW ?_) | (refine WVs.fnW ?_ ?_))) <;> (first | exact WV.junk _ | exact WV.keep rfl | exact WV.row rfl | exact WV.nil rfl | exact WV.nilsl | exact WV.emp rfl | exact WV.empsl | exact WV.ptr rfl | (refine WV.row_eq rfl ?_; simp only [bxw, tys]) | (refine WV.view (k := 3) ?_; simp (decide := true) only [reify, share, fresh1, reduceIte, reduceCtorEq, Nat.reduceAdd, bxm, tys]) | (refine WV.eq ?_ rfl; simp only [bxw, tys]))
    refine Wp.region hU (f7_ci_ok _) (by simp (decide := true) (disch := (first | omega | (simp only [List.length_append, List.length_map, List.length_cons, List.length_nil]; omega))) only [evOp, putTm, ↓reduceIte, jj_0, jj_set, jj_get, jj_getD, E_T, E_gl, E_br, tdesc, reduceCtorEq, Nat.reduceAdd, Nat.reduceSub, Nat.reduceLT, Nat.reduceLeDiff, Nat.reduceEqDiff, bxm, tabs, evBin, intBin, strBin, bothNil, constOp, eqCells, hc28, tys]; rfl) ?_
    refine againN ?_
    refine Wk.wpL ?_ (ih (setL l v (-5)) (IntKind.i64.wrap (v + 1)) _ h)
    refine Wk.weak hU [some 0, some 1, some 2, some 3, some 4, some 5, some 6] _ (by decide) ?_ ?_
    · refine .obj rfl ?_ ?_
      · first | exact .same _ _ _ | (refine WO.same_eq ?_; simp only [bxw, tys]; done)
      refine .obj rfl ?_ ?_
      · first | exact .same _ _ _ | (refine WO.same_eq ?_; simp only [bxw, tys]; done)
      refine .obj rfl ?_ ?_
      · refine .mk ?_ (by simp only [bxm, leaf_ptr]) nofun
        refine .cons ?_ .nil
        (repeat' (first | exact WVs.nil | (refine WVs.jjT (by simp only [jj_length, List.length_cons, List.length_nil, Nat.reduceAdd, Nat.reduceLeDiff]) ?_; try simp (decide := true) only [jj_0, jj_drop, List.drop_succ_cons, List.drop_zero, List.drop_nil, Nat.reduceSub, Nat.reduceLeDiff, ↓reduceIte]) | refine WVs.cons ?_ ?_ | (refine WVs.aggW ?_) | (refine WVs.fnW ?_ ?_))) <;> (first | exact WV.junk _ | exact WV.keep rfl | exact WV.row rfl | exact WV.nil rfl | exact WV.nilsl | exact WV.emp rfl | exact WV.empsl | exact WV.ptr rfl | (refine WV.row_eq rfl ?_; simp only [bxw, tys]) | (refine WV.view (k := 3) ?_; simp (decide := true) only [reify, share, fresh1, reduceIte, reduceCtorEq, Nat.reduceAdd, bxm, tys]) | (refine WV.eq ?_ rfl; simp only [bxw, tys]))
      refine .obj rfl ?_ ?_
      · first | exact .same _ _ _ | (refine WO.same_eq ?_; simp only [bxw, tys]; done)
      refine .obj rfl ?_ ?_
      · first | exact .same _ _ _ | (refine WO.same_eq ?_; simp only [bxw, tys]; done)
      refine .obj rfl ?_ ?_
      · first | exact .same _ _ _ | (refine WO.same_eq ?_; simp only [bxw, tys]; done)
      refine .obj rfl ?_ ?_
      · first | exact .same _ _ _ | (refine WO.same_eq ?_; simp only [bxw, tys]; done)
      exact .nil
    · (repeat' (first | exact WVs.nil | (refine WVs.jjT (by simp only [jj_length, List.length_cons, List.length_nil, Nat.reduceAdd, Nat.reduceLeDiff]) ?_; try simp (decide := true) only [jj_0, jj_drop, List.drop_succ_cons, List.drop_zero, List.drop_nil, Nat.reduceSub, Nat.reduceLeDiff, ↓reduceIte]) | refine WVs.cons ?_ ?_ | (refine WVs.aggW ?_) | (refine WVs.fnW ?_ ?_))) <;> (first | exact WV.junk _ | exact WV.keep rfl | exact WV.row rfl | exact WV.nil rfl | exact WV.nilsl | exact WV.emp rfl | exact WV.empsl | exact WV.ptr rfl | (refine WV.row_eq rfl ?_; simp only [bxw, tys]) | (refine WV.view (k := 3) ?_; simp (decide := true) only [reify, share, fresh1, reduceIte, reduceCtorEq, Nat.reduceAdd, bxm, tys]) | (refine WV.eq ?_ rfl; simp only [bxw, tys]))
  · rw [if_f hc28] at h
    refine Wp.exit ?_
    refine thenE ?_
    refine againE ?_
    obtain rfl := Option.some.inj h
    refine ⟨rfl, ?_⟩
    refine Wk.weak hU [some 0, some 1, some 2, some 3, some 4, some 6] _ (by decide) ?_ ?_
    · refine .obj rfl ?_ ?_
      · first | exact .same _ _ _ | (refine WO.same_eq ?_; simp only [bxw, tys]; done)
      refine .obj rfl ?_ ?_
      · first | exact .same _ _ _ | (refine WO.same_eq ?_; simp only [bxw, tys]; done)
      refine .obj rfl ?_ ?_
      · refine .mk ?_ (by simp only [bxm, leaf_ptr]) nofun
        refine .cons ?_ .nil
        (repeat' (first | exact WVs.nil | (refine WVs.jjT (by simp only [jj_length, List.length_cons, List.length_nil, Nat.reduceAdd, Nat.reduceLeDiff]) ?_; try simp (decide := true) only [jj_0, jj_drop, List.drop_succ_cons, List.drop_zero, List.drop_nil, Nat.reduceSub, Nat.reduceLeDiff, ↓reduceIte]) | refine WVs.cons ?_ ?_ | (refine WVs.aggW ?_) | (refine WVs.fnW ?_ ?_))) <;> (first | exact WV.junk _ | exact WV.keep rfl | exact WV.row rfl | exact WV.nil rfl | exact WV.nilsl | exact WV.emp rfl | exact WV.empsl | exact WV.ptr rfl | (refine WV.row_eq rfl ?_; simp only [bxw, tys]) | (refine WV.view (k := 3) ?_; simp (decide := true) only [reify, share, fresh1, reduceIte, reduceCtorEq, Nat.reduceAdd, bxm, tys]) | (refine WV.eq ?_ rfl; simp only [bxw, tys]))
      refine .obj rfl ?_ ?_
      · first | exact .same _ _ _ | (refine WO.same_eq ?_; simp only [bxw, tys]; done)
      refine .obj rfl ?_ ?_
      · first | exact .same _ _ _ | (refine WO.same_eq ?_; simp only [bxw, tys]; done)
      refine .obj rfl ?_ ?_
      · first | exact .same _ _ _ | (refine WO.same_eq ?_; simp only [bxw, tys]; done)
      exact .nil
    · (repeat' (first | exact WVs.nil | (refine WVs.jjT (by simp only [jj_length, List.length_cons, List.length_nil, Nat.reduceAdd, Nat.reduceLeDiff]) ?_; try simp (decide := true) only [jj_0, jj_drop, List.drop_succ_cons, List.drop_zero, List.drop_nil, Nat.reduceSub, Nat.reduceLeDiff, ↓reduceIte]) | refine WVs.cons ?_ ?_ | (refine WVs.aggW ?_) | (refine WVs.fnW ?_ ?_))) <;> (first | exact WV.junk _ | exact WV.keep rfl | exact WV.row rfl | exact WV.nil rfl | exact WV.nilsl | exact WV.emp rfl | exact WV.empsl | exact WV.ptr rfl | (refine WV.row_eq rfl ?_; simp only [bxw, tys]) | (refine WV.view (k := 3) ?_; simp (decide := true) only [reify, share, fresh1, reduceIte, reduceCtorEq, Nat.reduceAdd, bxm, tys]) | (refine WV.eq ?_ rfl; simp only [bxw, tys]))

set_option maxHeartbeats 4000000 in
theorem f7_l4_ok {base : Nat} {c00 : Ctx} (hU : Under E base c00 nilStore) (r10 : (List Int) × Int) (from_ : List Frame) (to : List Frame) (r3 : List Frame) (r4 : List Frame) (r5 : Trip) (p8 : List Int) : ∀ (hs : List Int) (v : Int) (o30 : Unit), f7_l4 r10 hs v = some o30 →
    WpL E base c00 nilStore (lb Try.f7 4) ⟨.sl (List.map cFrame from_) :: .sl (List.map cFrame to) :: jj 3 (.row 0 3 0 ((r3).length) :: .row 1 3 0 ((r4).length) :: jj 1 (.ptr 2 0 0 :: jj 1 (.sl (List.map (cInt .i64) p8) :: jj 2 (.row 5 1 0 ((hs).length) :: jj 110 (.v (.int .i64 (r10.1.length : Int)) :: .v (.int .i64 v) :: jj 46 []))))), St [some ⟨3, true, true, List.map cFrame r3⟩, some ⟨3, true, true, List.map cFrame r4⟩, some ⟨3, false, false, [[.v (.int .i64 r5.Common), .row 3 1 0 ((r5.Out).length), .row 4 1 0 ((r5.In).length)]]⟩, some ⟨1, true, true, List.map (cInt .i64) r5.Out⟩, some ⟨1, true, true, List.map (cInt .i64) r5.In⟩, some ⟨1, false, true, List.map (cInt .i64) hs⟩], none, 0⟩ (fun ex s1 => ex = .exit 8 ∧ Wk base c00 nilStore s1 ⟨.sl (List.map cFrame from_) :: .sl (List.map cFrame to) :: jj 3 (.row 0 3 0 ((r3).length) :: .row 1 3 0 ((r4).length) :: jj 1 (.ptr 2 0 0 :: jj 1 (.sl (List.map (cInt .i64) p8) :: jj 161 []))), St [some ⟨3, true, true, List.map cFrame r3⟩, some ⟨3, true, true, List.map cFrame r4⟩, some ⟨3, false, false, [[.v (.int .i64 r5.Common), .row 3 1 0 ((r5.Out).length), .row 4 1 0 ((r5.In).length)]]⟩, some ⟨1, true, true, List.map (cInt .i64) r5.Out⟩, some ⟨1, true, true, List.map (cInt .i64) r5.In⟩], none, 0⟩) := by
  refine f7_l4.partial_correctness r10 (fun hs v o30 => WpL E base c00 nilStore (lb Try.f7 4) ⟨.sl (List.map cFrame from_) :: .sl (List.map cFrame to) :: jj 3 (.row 0 3 0 ((r3).length) :: .row 1 3 0 ((r4).length) :: jj 1 (.ptr 2 0 0 :: jj 1 (.sl (List.map (cInt .i64) p8) :: jj 2 (.row 5 1 0 ((hs).length) :: jj 110 (.v (.int .i64 (r10.1.length : Int)) :: .v (.int .i64 v) :: jj 46 []))))), St [some ⟨3, true, true, List.map cFrame r3⟩, some ⟨3, true, true, List.map cFrame r4⟩, some ⟨3, false, false, [[.v (.int .i64 r5.Common), .row 3 1 0 ((r5.Out).length), .row 4 1 0 ((r5.In).length)]]⟩, some ⟨1, true, true, List.map (cInt .i64) r5.Out⟩, some ⟨1, true, true, List.map (cInt .i64) r5.In⟩, some ⟨1, false, true, List.map (cInt .i64) hs⟩], none, 0⟩ (fun ex s1 => ex = .exit 8 ∧ Wk base c00 nilStore s1 ⟨.sl (List.map cFrame from_) :: .sl (List.map cFrame to) :: jj 3 (.row 0 3 0 ((r3).length) :: .row 1 3 0 ((r4).length) :: jj 1 (.ptr 2 0 0 :: jj 1 (.sl (List.map (cInt .i64) p8) :: jj 161 []))), St [some ⟨3, true, true, List.map cFrame r3⟩, some ⟨3, true, true, List.map cFrame r4⟩, some ⟨3, false, false, [[.v (.int .i64 r5.Common), .row 3 1 0 ((r5.Out).length), .row 4 1 0 ((r5.In).length)]]⟩, some ⟨1, true, true, List.map (cInt .i64) r5.Out⟩, some ⟨1, true, true, List.map (cInt .i64) r5.In⟩], none, 0⟩)) ?_
  intro lp__ ih hs v o30 h
  refine WpL.stepE (by simp only [Try.f7, lb, Option.getD_some, loopsOf, List.nil_append, List.append_nil, List.cons_append, List.getElem?_cons_zero, List.getElem?_cons_succ]; rfl) ?_
  refine Wp.seq ?_
  refine Wp.region hU (f7_ci_ok _) (by simp (decide := true) (disch := (first | omega | (simp only [List.length_append, List.length_map, List.length_cons, List.length_nil]; omega))) only [evOp, putTm, ↓reduceIte, jj_0, jj_set, jj_get, jj_getD, E_T, E_gl, E_br, tdesc, reduceCtorEq, Nat.reduceAdd, Nat.reduceSub, Nat.reduceLT, Nat.reduceLeDiff, Nat.reduceEqDiff, bxm, tabs, evBin, intBin, strBin, bothNil, constOp, eqCells, tys]; rfl) ?_
  refine thenN ?_
  refine Wp.seq ?_
  refine Wp.cond hU (t := decide (v < (r10.1.length : Int))) rfl (fun hc31 => ?_) (fun hc31 => ?_)
  · rw [if_t hc31] at h
    refine Wp.skip ?_
    refine thenN ?_
    refine Wp.seq ?_
    refine Wp.block ?_
    refine Wp.seq ?_
    refine Wp.region hU (f7_ci_ok _) (by simp (decide := true) (disch := (first | omega | (simp only [List.length_append, List.length_map, List.length_cons, List.length_nil]; omega))) only [evOp, putTm, ↓reduceIte, jj_0, jj_set, jj_get, jj_getD, E_T, E_gl, E_br, tdesc, reduceCtorEq, Nat.reduceAdd, Nat.reduceSub, Nat.reduceLT, Nat.reduceLeDiff, Nat.reduceEqDiff, bxm, tabs, hc31, tys]; rfl) ?_
    refine thenN ?_
    obtain ⟨e32, he32, h⟩ := bind_some h
    obtain ⟨he32a, he32b, he32c⟩ := rd_some he32
    refine Wp.region hU (f7_ci_ok _) (by simp (decide := true) (disch := (first | omega | (simp only [List.length_append, List.length_map, List.length_cons, List.length_nil]; omega))) only [evOp, putTm, ↓reduceIte, jj_0, jj_set, jj_get, jj_getD, E_T, E_gl, E_br, tdesc, reduceCtorEq, Nat.reduceAdd, Nat.reduceSub, Nat.reduceLT, Nat.reduceLeDiff, Nat.reduceEqDiff, bxm, tabs, indexAddrAV, evStore, putAt, he32a, he32b, he32c, hc31, tys]; rfl) ?_
    refine blkN ?_
    refine thenN ?_
    refine Wk.wp (s2 := ⟨.sl (List.map cFrame from_) :: .sl (List.map cFrame to) :: jj 3 (.row 0 3 0 ((r3).length) :: .row 1 3 0 ((r4).length) :: jj 1 (.ptr 2 0 0 :: jj 1 (.sl (List.map (cInt .i64) p8) :: jj 2 (.row 5 1 0 ((setL hs v (-6)).length) :: jj 110 (.v (.int .i64 (r10.1.length : Int)) :: .v (.int .i64 v) :: jj 46 []))))), St [some ⟨3, true, true, List.map cFrame r3⟩, some ⟨3, true, true, List.map cFrame r4⟩, some ⟨3, false, false, [[.v (.int .i64 r5.Common), .row 3 1 0 ((r5.Out).length), .row 4 1 0 ((r5.In).length)]]⟩, some ⟨1, true, true, List.map (cInt .i64) r5.Out⟩, some ⟨1, true, true, List.map (cInt .i64) r5.In⟩, some ⟨1, false, true, List.map (cInt .i64) (setL hs v (-6))⟩], none, 0⟩) ?_ ?_
    · try simp only [jjs]
      refine Wk.weak hU [some 0, some 1, some 2, some 3, some 4, some 5] _ (by decide) ?_ ?_
      · refine .obj rfl ?_ ?_
        · first | exact .same _ _ _ | (refine WO.same_eq ?_; simp only [bxw, tys]; done)
        refine .obj rfl ?_ ?_
        · first | exact .same _ _ _ | (refine WO.same_eq ?_; simp only [bxw, tys]; done)
        refine .obj rfl ?_ ?_
        · refine .mk ?_ (by simp only [bxm, leaf_ptr]) nofun
          refine .cons ?_ .nil
          (repeat' (first | exact WVs.nil | (refine WVs.jjT (by simp only [jj_length, List.length_cons, List.length_nil, Nat.reduceAdd, Nat.reduceLeDiff]) ?_; try simp (decide := true) only [jj_0, jj_drop, List.drop_succ_cons, List.drop_zero, List.drop_nil, Nat.reduceSub, Nat.reduceLeDiff, ↓reduceIte]) | refine WVs.cons ?_ ?_ | (refine WVs.aggW ?_) | (refine WVs.fnW ?_ ?_))) <;> (first | exact WV.junk _ | exact WV.keep rfl | exact WV.row rfl | exact WV.nil rfl | exact WV.nilsl | exact WV.emp rfl | exact WV.empsl | exact WV.ptr rfl | (refine WV.row_eq rfl ?_; simp only [bxw, tys]) | (refine WV.view (k := 3) ?_; simp (decide := true) only [reify, share, fresh1, reduceIte, reduceCtorEq, Nat.reduceAdd, bxm, tys]) | (refine WV.eq ?_ rfl; simp only [bxw, tys]))
        refine .obj rfl ?_ ?_
        · first | exact .same _ _ _ | (refine WO.same_eq ?_; simp only [bxw, tys]; done)
        refine .obj rfl ?_ ?_
        · first | exact .same _ _ _ | (refine WO.same_eq ?_; simp only [bxw, tys]; done)
        refine .obj rfl ?_ ?_
        · first | exact .same _ _ _ | (refine WO.same_eq ?_; simp only [bxw, tys]; done)
        exact .nil
      · (repeat' (first | exact WVs.nil | (refine WVs.jjT (by simp only [jj_length, List.length_cons, List.length_nil, Nat.reduceAdd, Nat.reduceLeDiff]) ?_; try simp (decide := true) only [jj_0, jj_drop, List.drop_succ_cons, List.drop_zero, List.drop_nil, Nat.reduceSub, Nat.reduceLeDiff, ↓reduceIte]) | refine WVs.cons ?_ ?_ | (refine WVs.aggW ?_) | (refine WVs.fnW ?_ ?_))) <;> (first | exact WV.junk _ | exact WV.keep rfl | exact WV.row rfl | exact WV.nil rfl | exact WV.nilsl | exact WV.emp rfl | exact WV.empsl | exact WV.ptr rfl | (refine WV.row_eq rfl ?_; simp only [bxw, tys]) | (refine WV.view (k := 3) ?_; simp (decide := true) only [reify, share, fresh1, reduceIte, reduceCtorEq, Nat.reduceAdd, bxm, tys]) | (refine WV.eq ?_ rfl; simp only [bxw, tys]))
    refine Wp.region hU (f7_ci_ok _) (by simp (decide := true) (disch := (first | omega | (simp only [List.length_append, List.length_map, List.length_cons, List.length_nil]; omega))) only [evOp, putTm, ↓reduceIte, jj_0, jj_set, jj_get, jj_getD, E_T, E_gl, E_br, tdesc, reduceCtorEq, Nat.reduceAdd, Nat.reduceSub, Nat.reduceLT, Nat.reduceLeDiff, Nat.reduceEqDiff, bxm, tabs, evBin, intBin, strBin, bothNil, constOp, eqCells, hc31, tys]; rfl) ?_
    refine againN ?_
    refine Wk.wpL ?_ (ih (setL hs v (-6)) (IntKind.i64.wrap (v + 1)) _ h)
    refine Wk.weak hU [some 0, some 1, some 2, some 3, some 4, some 5] _ (by decide) ?_ ?_
    · refine .obj rfl ?_ ?_
      · first | exact .same _ _ _ | (refine WO.same_eq ?_; simp only [bxw, tys]; done)
      refine .obj rfl ?_ ?_
      · first | exact .same _ _ _ | (refine WO.same_eq ?_; simp only [bxw, tys]; done)
      refine .obj rfl ?_ ?_
      · refine .mk ?_ (by simp only [bxm, leaf_ptr]) nofun
        refine .cons ?_ .nil
        (repeat' (first | exact WVs.nil | (refine WVs.jjT (by simp only [jj_length, List.length_cons, List.length_nil, Nat.reduceAdd, Nat.reduceLeDiff]) ?_; try simp (decide := true) only [jj_0, jj_drop, List.drop_succ_cons, List.drop_zero, List.drop_nil, Nat.reduceSub, Nat.reduceLeDiff, ↓reduceIte]) | refine WVs.cons ?_ ?_ | (refine WVs.aggW ?_) | (refine WVs.fnW ?_ ?_))) <;> (first | exact WV.junk _ | exact WV.keep rfl | exact WV.row rfl | exact WV.nil rfl | exact WV.nilsl | exact WV.emp rfl | exact WV.empsl | exact WV.ptr rfl | (refine WV.row_eq rfl ?_; simp only [bxw, tys]) | (refine WV.view (k := 3) ?_; simp (decide := true) only [reify, share, fresh1, reduceIte, reduceCtorEq, Nat.reduceAdd, bxm, tys]) | (refine WV.eq ?_ rfl; simp only [bxw, tys]))
      refine .obj rfl ?_ ?_
      · first | exact .same _ _ _ | (refine WO.same_eq ?_; simp only [bxw, tys]; done)
      refine .obj rfl ?_ ?_
      · first | exact .same _ _ _ | (refine WO.same_eq ?_; simp only [bxw, tys]; done)
      refine .obj rfl ?_ ?_
      · first | exact .same _ _ _ | (refine WO.same_eq ?_; simp only [bxw, tys]; done)
      exact .nil
    · (repeat' (first | exact WVs.nil | (refine WVs.jjT (by simp only [jj_length, List.length_cons, List.length_nil, Nat.reduceAdd, Nat.reduceLeDiff]) ?_; try simp (decide := true) only [jj_0, jj_drop, List.drop_succ_cons, List.drop_zero, List.drop_nil, Nat.reduceSub, Nat.reduceLeDiff, ↓reduceIte]) | refine WVs.cons ?_ ?_ | (refine WVs.aggW ?_) | (refine WVs.fnW ?_ ?_))) <;> (first | exact WV.junk _ | exact WV.keep rfl | exact WV.row rfl | exact WV.nil rfl | exact WV.nilsl | exact WV.emp rfl | exact WV.empsl | exact WV.ptr rfl | (refine WV.row_eq rfl ?_; simp only [bxw, tys]) | (refine WV.view (k := 3) ?_; simp (decide := true) only [reify, share, fresh1, reduceIte, reduceCtorEq, Nat.reduceAdd, bxm, tys]) | (refine WV.eq ?_ rfl; simp only [bxw, tys]))
  · rw [if_f hc31] at h
    refine Wp.exit ?_
    refine thenE ?_
    refine againE ?_
    obtain rfl := Option.some.inj h
    refine ⟨rfl, ?_⟩
    refine Wk.weak hU [some 0, some 1, some 2, some 3, some 4] _ (by decide) ?_ ?_
    · refine .obj rfl ?_ ?_
      · first | exact .same _ _ _ | (refine WO.same_eq ?_; simp only [bxw, tys]; done)
      refine .obj rfl ?_ ?_
      · first | exact .same _ _ _ | (refine WO.same_eq ?_; simp only [bxw, tys]; done)
      refine .obj rfl ?_ ?_
      · refine .mk ?_ (by simp only [bxm, leaf_ptr]) nofun
        refine .cons ?_ .nil
        (repeat' (first | exact WVs.nil | (refine WVs.jjT (by simp only [jj_length, List.length_cons, List.length_nil, Nat.reduceAdd, Nat.reduceLeDiff]) ?_; try simp (decide := true) only [jj_0, jj_drop, List.drop_succ_cons, List.drop_zero, List.drop_nil, Nat.reduceSub, Nat.reduceLeDiff, ↓reduceIte]) | refine WVs.cons ?_ ?_ | (refine WVs.aggW ?_) | (refine WVs.fnW ?_ ?_))) <;> (first | exact WV.junk _ | exact WV.keep rfl | exact WV.row rfl | exact WV.nil rfl | exact WV.nilsl | exact WV.emp rfl | exact WV.empsl | exact WV.ptr rfl | (refine WV.row_eq rfl ?_; simp only [bxw, tys]) | (refine WV.view (k := 3) ?_; simp (decide := true) only [reify, share, fresh1, reduceIte, reduceCtorEq, Nat.reduceAdd, bxm, tys]) | (refine WV.eq ?_ rfl; simp only [bxw, tys]))
      refine .obj rfl ?_ ?_
      · first | exact .same _ _ _ | (refine WO.same_eq ?_; simp only [bxw, tys]; done)
      refine .obj rfl ?_ ?_
      · first | exact .same _ _ _ | (refine WO.same_eq ?_; simp only [bxw, tys]; done)
      exact .nil
    · (repeat' (first | exact WVs.nil | (refine WVs.jjT (by simp only [jj_length, List.length_cons, List.length_nil, Nat.reduceAdd, Nat.reduceLeDiff]) ?_; try simp (decide := true) only [jj_0, jj_drop, List.drop_succ_cons, List.drop_zero, List.drop_nil, Nat.reduceSub, Nat.reduceLeDiff, ↓reduceIte]) | refine WVs.cons ?_ ?_ | (refine WVs.aggW ?_) | (refine WVs.fnW ?_ ?_))) <;> (first | exact WV.junk _ | exact WV.keep rfl | exact WV.row rfl | exact WV.nil rfl | exact WV.nilsl | exact WV.emp rfl | exact WV.empsl | exact WV.ptr rfl | (refine WV.row_eq rfl ?_; simp only [bxw, tys]) | (refine WV.view (k := 3) ?_; simp (decide := true) only [reify, share, fresh1, reduceIte, reduceCtorEq, Nat.reduceAdd, bxm, tys]) | (refine WV.eq ?_ rfl; simp only [bxw, tys]))

set_option maxHeartbeats 4000000 in
theorem f7_ok (from_ : List Frame) (to : List Frame) (r : Bool) (h : f7 from_ to = some r) : PureOK E 7 [.sl (List.map cFrame from_), .sl (List.map cFrame to)] (.v (.bool r)) := by
  unfold f7 at h
  refine pure_of_wp tabOK mixed (fn := Try.f7) (nt := 172) Try.func7 rfl rfl (names _ _ Try.func7) rfl rfl (fun _ => rfl) (fun base c00 hU => ?_)
  refine Wk.wp (s2 := ⟨.sl (List.map cFrame from_) :: .sl (List.map cFrame to) :: jj 170 [], St [], none, 0⟩) ?_ ?_
  · refine Wk.weak hU [] _ (by decide) .nil ?_
    simp only [jjs, List.length_cons, List.length_nil, Nat.reduceAdd, Nat.reduceSub, List.replicate, List.cons_append, List.nil_append]
    repeat' (first | exact WVs.nil | refine WVs.cons ?_ ?_)
    all_goals first | exact WV.junk _ | exact WV.keep rfl | exact .agg rfl (aggKeep rfl)
  refine Wp.seq ?_
  refine Wp.region hU (f7_ci_ok _) (by simp (decide := true) (disch := (first | omega | (simp only [List.length_append, List.length_map, List.length_cons, List.length_nil]; omega))) only [evOp, putTm, ↓reduceIte, jj_0, jj_set, jj_get, jj_getD, E_T, E_gl, E_br, tdesc, reduceCtorEq, Nat.reduceAdd, Nat.reduceSub, Nat.reduceLT, Nat.reduceLeDiff, Nat.reduceEqDiff, bxm, tabs, tys]; rfl) ?_
  refine thenN ?_
  refine Wp.seq ?_
  refine Wp.seq ?_
  obtain ⟨r1, hr1, h⟩ := bind_some h
  have hr1c : ∀ σ, f7_ci 8 [] σ = some (.v (.bool r1), σ, none) := fun σ => f8_call hr1 σ
  refine Wp.region hU (f7_ci_ok _) (by simp (decide := true) (disch := (first | omega | (simp only [List.length_append, List.length_map, List.length_cons, List.length_nil]; omega))) only [evOp, putTm, ↓reduceIte, jj_0, jj_set, jj_get, jj_getD, E_T, E_gl, E_br, tdesc, reduceCtorEq, Nat.reduceAdd, Nat.reduceSub, Nat.reduceLT, Nat.reduceLeDiff, Nat.reduceEqDiff, bxm, tabs, evCall, mapO, importL, import2L, import1, import2, share, fresh1, freshL, evUn, hr1c, tys]; rfl) ?_
  refine thenN ?_
  refine Wp.cond hU (t := !r1) rfl (fun hc2 => ?_) (fun hc2 => ?_)
  · rw [if_t hc2] at h
    refine Wp.seq ?_
    refine Wp.region hU (f7_ci_ok _) (by simp (decide := true) (disch := (first | omega | (simp only [List.length_append, List.length_map, List.length_cons, List.length_nil]; omega))) only [evOp, putTm, ↓reduceIte, jj_0, jj_set, jj_get, jj_getD, E_T, E_gl, E_br, tdesc, reduceCtorEq, Nat.reduceAdd, Nat.reduceSub, Nat.reduceLT, Nat.reduceLeDiff, Nat.reduceEqDiff, bxm, tabs, hc2, tys]; rfl) ?_
    refine thenN ?_
    refine Wp.ret ?_
    refine thenR ?_
    obtain rfl := Option.some.inj h
    refine ⟨.inl rfl, ?_⟩
    refine Rt.of ?_
    simp (decide := true) only [↓reduceIte, jj_0, jj_set, jj_get, jj_getD, evReturn, retShare, evReturn0, resAV, evLoad, ofCells, TD.isAgg, mapO, exportVs, exportV, exportL, export1, rowsOf, rowOf, innerIds, rowIds, one, closed, share, fresh1, E_T, reduceIte, reduceCtorEq, Nat.reduceAdd, Nat.reduceSub, Nat.reduceLT, Nat.reduceLeDiff, Nat.reduceEqDiff, bxm, tabs, List.map_append, f7_res, f7_rt, tys]
  · rw [if_f hc2] at h
    refine Wp.skip ?_
    refine thenN ?_
    refine Wp.seq ?_
    obtain ⟨r3, hr3, h⟩ := bind_some h
    have hr3c : ∀ σ, f7_ci 11 [.sl (List.map cFrame from_)] σ = some (.own false 3 (List.map cFrame r3), σ, none) := fun σ => f11_call hr3 σ
    obtain ⟨r4, hr4, h⟩ := bind_some h
    have hr4c : ∀ σ, f7_ci 11 [.sl (List.map cFrame to)] σ = some (.own false 3 (List.map cFrame r4), σ, none) := fun σ => f11_call hr4 σ
    refine Wp.region hU (f7_ci_ok _) (by simp (decide := true) (disch := (first | omega | (simp only [List.length_append, List.length_map, List.length_cons, List.length_nil]; omega))) only [evOp, putTm, ↓reduceIte, jj_0, jj_set, jj_get, jj_getD, E_T, E_gl, E_br, tdesc, reduceCtorEq, Nat.reduceAdd, Nat.reduceSub, Nat.reduceLT, Nat.reduceLeDiff, Nat.reduceEqDiff, bxm, tabs, evCall, mapO, importL, import2L, import1, import2, share, fresh1, freshL, hr3c, hr4c, hc2, tys]; rfl) ?_
    refine thenN ?_
    refine Wp.seq ?_
    obtain ⟨r5, hr5, h⟩ := bind_some h
    have hr5c : ∀ σ, f7_ci 16 [.sl (List.map cFrame r3), .sl (List.map cFrame r4)] σ = some (.agg [.v (.int .i64 r5.Common), .own false 1 (List.map (cInt .i64) r5.Out), .own false 1 (List.map (cInt .i64) r5.In)], σ, none) := fun σ => f16_call hr5 σ
    refine Wp.region hU (f7_ci_ok _) (by simp (decide := true) (disch := (first | omega | (simp only [List.length_append, List.length_map, List.length_cons, List.length_nil]; omega))) only [evOp, putTm, ↓reduceIte, jj_0, jj_set, jj_get, jj_getD, E_T, E_gl, E_br, tdesc, reduceCtorEq, Nat.reduceAdd, Nat.reduceSub, Nat.reduceLT, Nat.reduceLeDiff, Nat.reduceEqDiff, bxm, tabs, evCall, mapO, importL, import2L, import1, import2, share, fresh1, freshL, evStore, putAt, hr5c, hc2, tys]; rfl) ?_
    refine thenN ?_
    refine Wp.seq ?_
    obtain ⟨r6, hr6, h⟩ := bind_some h
    have hr6c : ∀ σ, f7_ci 10 [.sl (List.map cFrame r3)] σ = some (.own false 1 (List.map (cInt .i64) r6), σ, none) := fun σ => f10_call hr6 σ
    obtain ⟨a7, ha7, h⟩ := bind_some h
    obtain ⟨ha7a, ha7b⟩ := ap_some ha7
    try simp only [List.length_cons, List.length_nil, Nat.zero_add, Nat.add_zero, Nat.reduceAdd] at ha7a
    refine Wp.region hU (f7_ci_ok _) (by simp (decide := true) (disch := (first | omega | (simp only [List.length_append, List.length_map, List.length_cons, List.length_nil]; omega))) only [evOp, putTm, ↓reduceIte, jj_0, jj_set, jj_get, jj_getD, E_T, E_gl, E_br, tdesc, reduceCtorEq, Nat.reduceAdd, Nat.reduceSub, Nat.reduceLT, Nat.reduceLeDiff, Nat.reduceEqDiff, bxm, tabs, evCall, mapO, importL, import2L, import1, import2, share, fresh1, freshL, evA, evAppend, elems, flatOf, hr6c, ha7a, hc2, tys]; rfl) ?_
    refine thenN ?_
    refine Wk.wp (s2 := ⟨.sl (List.map cFrame from_) :: .sl (List.map cFrame to) :: jj 3 (.row 0 3 0 ((r3).length) :: .row 1 3 0 ((r4).length) :: .ptr 2 0 0 :: .ptr 5 0 0 :: .row 8 1 0 ((a7).length) :: jj 162 []), St [some ⟨3, true, true, List.map cFrame r3⟩, some ⟨3, true, true, List.map cFrame r4⟩, some ⟨3, false, false, [[.v (.int .i64 r5.Common), .row 3 1 0 ((r5.Out).length), .row 4 1 0 ((r5.In).length)]]⟩, some ⟨1, false, true, List.map (cInt .i64) r5.Out⟩, some ⟨1, false, true, List.map (cInt .i64) r5.In⟩, some ⟨3, false, false, [[.v (.int .i64 r5.Common), .row 6 1 0 ((r5.Out).length), .row 7 1 0 ((r5.In).length)]]⟩, some ⟨1, false, true, List.map (cInt .i64) r5.Out⟩, some ⟨1, false, true, List.map (cInt .i64) r5.In⟩, some ⟨1, false, true, List.map (cInt .i64) a7⟩], none, 0⟩) ?_ ?_
    · try simp only [jjs]
      refine Wk.weak hU [some 0, some 1, some 6, some 2, some 3, some 7, some 4, some 5, some 10] _ (by decide) ?_ ?_
      · refine .obj rfl ?_ ?_
        · first | exact .same _ _ _ | (refine WO.same_eq ?_; simp only [bxw, ha7b, tys]; done)
        refine .obj rfl ?_ ?_
        · first | exact .same _ _ _ | (refine WO.same_eq ?_; simp only [bxw, ha7b, tys]; done)
        refine .obj rfl ?_ ?_
        · refine .mk ?_ (by simp only [bxm, leaf_ptr]) nofun
          refine .cons ?_ .nil
          (repeat' (first | exact WVs.nil | (refine WVs.jjT (by simp only [jj_length, List.length_cons, List.length_nil, Nat.reduceAdd, Nat.reduceLeDiff]) ?_; try simp (decide := true) only [jj_0, jj_drop, List.drop_succ_cons, List.drop_zero, List.drop_nil, Nat.reduceSub, Nat.reduceLeDiff, ↓reduceIte]) | refine WVs.cons ?_ ?_ | (refine WVs.aggW ?_) | (refine WVs.fnW ?_ ?_))) <;> (first | exact WV.junk _ | exact WV.keep rfl | exact WV.row rfl | exact WV.nil rfl | exact WV.nilsl | exact WV.emp rfl | exact WV.empsl | exact WV.ptr rfl | (refine WV.row_eq rfl ?_; simp only [bxw, ha7b, tys]) | (refine WV.view (k := 3) ?_; simp (decide := true) only [reify, share, fresh1, reduceIte, reduceCtorEq, Nat.reduceAdd, bxm, tys]) | (refine WV.eq ?_ rfl; simp only [bxw, ha7b, tys]))
        refine .obj rfl ?_ ?_
        · first | exact .same _ _ _ | (refine WO.same_eq ?_; simp only [bxw, ha7b, tys]; done)
        refine .obj rfl ?_ ?_
        · first | exact .same _ _ _ | (refine WO.same_eq ?_; simp only [bxw, ha7b, tys]; done)
        refine .obj rfl ?_ ?_
        · refine .mk ?_ (by simp only [bxm, leaf_ptr]) nofun
          refine .cons ?_ .nil
          (repeat' (first | exact WVs.nil | (refine WVs.jjT (by simp only [jj_length, List.length_cons, List.length_nil, Nat.reduceAdd, Nat.reduceLeDiff]) ?_; try simp (decide := true) only [jj_0, jj_drop, List.drop_succ_cons, List.drop_zero, List.drop_nil, Nat.reduceSub, Nat.reduceLeDiff, ↓reduceIte]) | refine WVs.cons ?_ ?_ | (refine WVs.aggW ?_) | (refine WVs.fnW ?_ ?_))) <;> (first | exact WV.junk _ | exact WV.keep rfl | exact WV.row rfl | exact WV.nil rfl | exact WV.nilsl | exact WV.emp rfl | exact WV.empsl | exact WV.ptr rfl | (refine WV.row_eq rfl ?_; simp only [bxw, ha7b, tys]) | (refine WV.view (k := 3) ?_; simp (decide := true) only [reify, share, fresh1, reduceIte, reduceCtorEq, Nat.reduceAdd, bxm, tys]) | (refine WV.eq ?_ rfl; simp only [bxw, ha7b, tys]))
        refine .obj rfl ?_ ?_
        · first | exact .same _ _ _ | (refine WO.same_eq ?_; simp only [bxw, ha7b, tys]; done)
        refine .obj rfl ?_ ?_
        · first | exact .same _ _ _ | (refine WO.same_eq ?_; simp only [bxw, ha7b, tys]; done)
        refine .obj rfl ?_ ?_
        · first | exact .same _ _ _ | (refine WO.same_eq ?_; simp only [bxw, ha7b, tys]; done)
        exact .nil
      · (repeat' (first | exact WVs.nil | (refine WVs.jjT (by simp only [jj_length, List.length_cons, List.length_nil, Nat.reduceAdd, Nat.reduceLeDiff]) ?_; try simp (decide := true) only [jj_0, jj_drop, List.drop_succ_cons, List.drop_zero, List.drop_nil, Nat.reduceSub, Nat.reduceLeDiff, ↓reduceIte]) | refine WVs.cons ?_ ?_ | (refine WVs.aggW ?_) | (refine WVs.fnW ?_ ?_))) <;> (first | exact WV.junk _ | exact WV.keep rfl | exact WV.row rfl | exact WV.nil rfl | exact WV.nilsl | exact WV.emp rfl | exact WV.empsl | exact WV.ptr rfl | (refine WV.row_eq rfl ?_; simp only [bxw, ha7b, tys]) | (refine WV.view (k := 3) ?_; simp (decide := true) only [reify, share, fresh1, reduceIte, reduceCtorEq, Nat.reduceAdd, bxm, tys]) | (refine WV.eq ?_ rfl; simp only [bxw, ha7b, tys]))
    refine Wp.seq ?_
    obtain ⟨p8, hp8, h⟩ := bind_some h
    obtain ⟨hp8a, hp8b, hp8c, hp8d, hp8e, hp8f⟩ := cutL_some hp8
    refine Wp.region hU (f7_ci_ok _) (by simp (decide := true) (disch := (first | omega | (simp only [List.length_append, List.length_map, List.length_cons, List.length_nil]; omega))) only [evOp, putTm, ↓reduceIte, jj_0, jj_set, jj_get, jj_getD, E_T, E_gl, E_br, tdesc, reduceCtorEq, Nat.reduceAdd, Nat.reduceSub, Nat.reduceLT, Nat.reduceLeDiff, Nat.reduceEqDiff, bxm, tabs, evA, lenAV, evBin, intBin, strBin, bothNil, constOp, eqCells, sliceAV, boundAV, hp8a, hp8b, hp8c, hp8d, slice_take, hc2, tys]; rfl) ?_
    refine thenN ?_
    refine Wp.seq ?_
    obtain ⟨r9, hr9, h⟩ := bind_some h
    have hr9c : ∀ σ, f7_ci 18 [.sl (List.map (cInt .i64) p8), .agg [.v (.int .i64 r5.Common), .sl (List.map (cInt .i64) r5.Out), .sl (List.map (cInt .i64) r5.In)]] σ = some (.tup [.own false 1 (List.map (cInt .i64) r9.1), .v (.int .i64 r9.2)], σ, none) := fun σ => f18_call hr9 σ
    have hr9p := hr9c
    try simp only [hp8e, List.map_append, List.nil_append, Int.toNat_zero, List.drop_zero, List.map_cons, List.map_nil, cInt_eq, cBool_eq, cStr_eq, cSl_eq, tys] at hr9p
    refine Wp.region hU (f7_ci_ok _) (by simp (decide := true) (disch := (first | omega | (simp only [List.length_append, List.length_map, List.length_cons, List.length_nil]; omega))) only [evOp, putTm, ↓reduceIte, jj_0, jj_set, jj_get, jj_getD, E_T, E_gl, E_br, tdesc, reduceCtorEq, Nat.reduceAdd, Nat.reduceSub, Nat.reduceLT, Nat.reduceLeDiff, Nat.reduceEqDiff, bxm, tabs, evLoad, ldV, ofCells, TD.isAgg, evCall, mapO, importL, import2L, import1, import2, share, fresh1, freshL, hr9c, hr9p, slice_take, hp8a, hp8b, hp8c, hp8d, hc2, tys]; rfl) ?_
    refine thenN ?_
    refine Wp.seq ?_
    obtain ⟨r10, hr10, h⟩ := bind_some h
    have hr10c : ∀ σ, f7_ci 20 [.sl (List.map cFrame r3)] σ = some (.tup [.own false 1 (List.map (cInt .i64) r10.1), .v (.int .i64 r10.2)], σ, none) := fun σ => f20_call hr10 σ
    refine Wp.region hU (f7_ci_ok _) (by simp (decide := true) (disch := (first | omega | (simp only [List.length_append, List.length_map, List.length_cons, List.length_nil]; omega))) only [evOp, putTm, ↓reduceIte, jj_0, jj_set, jj_get, jj_getD, E_T, E_gl, E_br, tdesc, reduceCtorEq, Nat.reduceAdd, Nat.reduceSub, Nat.reduceLT, Nat.reduceLeDiff, Nat.reduceEqDiff, bxm, tabs, evCall, mapO, importL, import2L, import1, import2, share, fresh1, freshL, hr10c, slice_take, hp8a, hp8b, hp8c, hp8d, hc2, tys]; rfl) ?_
    refine thenN ?_
    refine Wp.seq ?_
    refine Wp.seq ?_
    obtain ⟨e11, he11, h⟩ := bind_some h
    obtain ⟨he11a, he11b, he11c⟩ := rd_some he11
    rcases Bool.eq_false_or_eq_true (e11 != 77) with hg11 | hg11
    · rw [if_t hg11] at h
      refine Wp.regionT hU (f7_ci_ok _) (by simp (decide := true) (disch := (first | omega | (simp only [List.length_append, List.length_map, List.length_cons, List.length_nil]; omega))) only [evOp, putTm, ↓reduceIte, jj_0, jj_set, jj_get, jj_getD, E_T, E_gl, E_br, tdesc, reduceCtorEq, Nat.reduceAdd, Nat.reduceSub, Nat.reduceLT, Nat.reduceLeDiff, Nat.reduceEqDiff, bxm, tabs, evA, lenAV, evBin, intBin, strBin, bothNil, constOp, eqCells, indexAddrAV, evLoad, ldV, ofCells, TD.isAgg, evCall, mapO, importL, import2L, import1, import2, share, fresh1, freshL, evUn, he11a, he11b, he11c, slice_take, hp8a, hp8b, hp8c, hp8d, hc2, hg11, tys]; rfl) (by kernel_rfl) ?_
      refine thenN ?_
      refine Wp.cond hU (t := true) rfl (fun _ => ?_) (fun hc => by cases hc)
      refine Wp.seq ?_
      refine Wp.region hU (f7_ci_ok _) (by simp (decide := true) (disch := (first | omega | (simp only [List.length_append, List.length_map, List.length_cons, List.length_nil]; omega))) only [evOp, putTm, ↓reduceIte, jj_0, jj_set, jj_get, jj_getD, E_T, E_gl, E_br, tdesc, reduceCtorEq, Nat.reduceAdd, Nat.reduceSub, Nat.reduceLT, Nat.reduceLeDiff, Nat.reduceEqDiff, bxm, tabs, slice_take, hp8a, hp8b, hp8c, hp8d, hc2, hg11, tys]; rfl) ?_
      refine thenN ?_
      refine Wp.ret ?_
      refine thenR ?_
      obtain rfl := Option.some.inj h
      refine ⟨.inl rfl, ?_⟩
      refine Rt.of ?_
      simp (decide := true) only [↓reduceIte, jj_0, jj_set, jj_get, jj_getD, evReturn, retShare, evReturn0, resAV, evLoad, ofCells, TD.isAgg, mapO, exportVs, exportV, exportL, export1, rowsOf, rowOf, innerIds, rowIds, one, closed, share, fresh1, E_T, reduceIte, reduceCtorEq, Nat.reduceAdd, Nat.reduceSub, Nat.reduceLT, Nat.reduceLeDiff, Nat.reduceEqDiff, bxm, tabs, List.map_append, f7_res, f7_rt, tys, ha7b, hp8e]
    · rw [if_f hg11] at h
      obtain ⟨r12, hr12, h⟩ := bind_some h
      have hr12c : ∀ σ, f7_ci 12 [.sl (List.map cFrame from_)] σ = some (.own false 1 (List.map (cInt .i64) r12), σ, none) := fun σ => f12_call hr12 σ
      obtain ⟨r13, hr13, h⟩ := bind_some h
      have hr13c : ∀ σ, f7_ci 9 [.sl (List.map (cInt .i64) p8), .sl (List.map (cInt .i64) r12)] σ = some (.v (.bool r13), σ, none) := fun σ => f9_call hr13 σ
      have hr13p := hr13c
      try simp only [hp8e, List.map_append, List.nil_append, Int.toNat_zero, List.drop_zero, List.map_cons, List.map_nil, cInt_eq, cBool_eq, cStr_eq, cSl_eq, tys] at hr13p
      rcases Bool.eq_false_or_eq_true (!r13) with hg12 | hg12
      · rw [if_t hg12] at h
        refine Wp.regionT hU (f7_ci_ok _) (by simp (decide := true) (disch := (first | omega | (simp only [List.length_append, List.length_map, List.length_cons, List.length_nil]; omega))) only [evOp, putTm, ↓reduceIte, jj_0, jj_set, jj_get, jj_getD, E_T, E_gl, E_br, tdesc, reduceCtorEq, Nat.reduceAdd, Nat.reduceSub, Nat.reduceLT, Nat.reduceLeDiff, Nat.reduceEqDiff, bxm, tabs, evA, lenAV, evBin, intBin, strBin, bothNil, constOp, eqCells, indexAddrAV, evLoad, ldV, ofCells, TD.isAgg, evCall, mapO, importL, import2L, import1, import2, share, fresh1, freshL, evUn, he11a, he11b, he11c, hr12c, hr13c, hr13p, slice_take, hp8a, hp8b, hp8c, hp8d, hc2, hg11, hg12, tys]; rfl) (by kernel_rfl) ?_
        refine thenN ?_
        refine Wp.cond hU (t := true) rfl (fun _ => ?_) (fun hc => by cases hc)
        refine Wp.seq ?_
        refine Wp.region hU (f7_ci_ok _) (by simp (decide := true) (disch := (first | omega | (simp only [List.length_append, List.length_map, List.length_cons, List.length_nil]; omega))) only [evOp, putTm, ↓reduceIte, jj_0, jj_set, jj_get, jj_getD, E_T, E_gl, E_br, tdesc, reduceCtorEq, Nat.reduceAdd, Nat.reduceSub, Nat.reduceLT, Nat.reduceLeDiff, Nat.reduceEqDiff, bxm, tabs, slice_take, hp8a, hp8b, hp8c, hp8d, hc2, hg11, hg12, tys]; rfl) ?_
        refine thenN ?_
        refine Wp.ret ?_
        refine thenR ?_
        obtain rfl := Option.some.inj h
        refine ⟨.inl rfl, ?_⟩
        refine Rt.of ?_
        simp (decide := true) only [↓reduceIte, jj_0, jj_set, jj_get, jj_getD, evReturn, retShare, evReturn0, resAV, evLoad, ofCells, TD.isAgg, mapO, exportVs, exportV, exportL, export1, rowsOf, rowOf, innerIds, rowIds, one, closed, share, fresh1, E_T, reduceIte, reduceCtorEq, Nat.reduceAdd, Nat.reduceSub, Nat.reduceLT, Nat.reduceLeDiff, Nat.reduceEqDiff, bxm, tabs, List.map_append, f7_res, f7_rt, tys, ha7b, hp8e]
      · rw [if_f hg12] at h
        obtain ⟨r14, hr14, h⟩ := bind_some h
        have hr14c : ∀ σ, f7_ci 17 [.sl (List.map cFrame from_), .sl (List.map cFrame to)] σ = some (.agg [.v (.int .i64 r14.Common), .own false 1 (List.map (cInt .i64) r14.Out), .own false 1 (List.map (cInt .i64) r14.In)], σ, none) := fun σ => f17_call hr14 σ
        obtain ⟨r15, hr15, h⟩ := bind_some h
        have hr15c : ∀ σ, f7_ci 15 [.agg [.v (.int .i64 r5.Common), .sl (List.map (cInt .i64) r5.Out), .sl (List.map (cInt .i64) r5.In)], .agg [.v (.int .i64 r14.Common), .sl (List.map (cInt .i64) r14.Out), .sl (List.map (cInt .i64) r14.In)]] σ = some (.v (.bool r15), σ, none) := fun σ => f15_call hr15 σ
        refine Wp.regionT hU (f7_ci_ok _) (by simp (decide := true) (disch := (first | omega | (simp only [List.length_append, List.length_map, List.length_cons, List.length_nil]; omega))) only [evOp, putTm, ↓reduceIte, jj_0, jj_set, jj_get, jj_getD, E_T, E_gl, E_br, tdesc, reduceCtorEq, Nat.reduceAdd, Nat.reduceSub, Nat.reduceLT, Nat.reduceLeDiff, Nat.reduceEqDiff, bxm, tabs, evA, lenAV, evBin, intBin, strBin, bothNil, constOp, eqCells, indexAddrAV, evLoad, ldV, ofCells, TD.isAgg, evCall, mapO, importL, import2L, import1, import2, share, fresh1, freshL, evUn, he11a, he11b, he11c, hr12c, hr13c, hr13p, hr14c, hr15c, slice_take, hp8a, hp8b, hp8c, hp8d, hc2, hg11, hg12, tys]; rfl) (by kernel_rfl) ?_
        refine thenN ?_
        refine Wp.cond hU (t := !r15) rfl (fun hc16 => ?_) (fun hc16 => ?_)
        · rw [if_t hc16] at h
          refine Wp.seq ?_
          refine Wp.region hU (f7_ci_ok _) (by simp (decide := true) (disch := (first | omega | (simp only [List.length_append, List.length_map, List.length_cons, List.length_nil]; omega))) only [evOp, putTm, ↓reduceIte, jj_0, jj_set, jj_get, jj_getD, E_T, E_gl, E_br, tdesc, reduceCtorEq, Nat.reduceAdd, Nat.reduceSub, Nat.reduceLT, Nat.reduceLeDiff, Nat.reduceEqDiff, bxm, tabs, slice_take, hp8a, hp8b, hp8c, hp8d, hc2, hg11, hg12, hc16, tys]; rfl) ?_
          refine thenN ?_
          refine Wp.ret ?_
          refine thenR ?_
          obtain rfl := Option.some.inj h
          refine ⟨.inl rfl, ?_⟩
          refine Rt.of ?_
          simp (decide := true) only [↓reduceIte, jj_0, jj_set, jj_get, jj_getD, evReturn, retShare, evReturn0, resAV, evLoad, ofCells, TD.isAgg, mapO, exportVs, exportV, exportL, export1, rowsOf, rowOf, innerIds, rowIds, one, closed, share, fresh1, E_T, reduceIte, reduceCtorEq, Nat.reduceAdd, Nat.reduceSub, Nat.reduceLT, Nat.reduceLeDiff, Nat.reduceEqDiff, bxm, tabs, List.map_append, f7_res, f7_rt, tys, ha7b, hp8e]
        · rw [if_f hc16] at h
          refine Wp.skip ?_
          refine thenN ?_
          refine Wp.seq ?_
          refine Wp.seq ?_
          refine Wp.region hU (f7_ci_ok _) (by simp (decide := true) (disch := (first | omega | (simp only [List.length_append, List.length_map, List.length_cons, List.length_nil]; omega))) only [evOp, putTm, ↓reduceIte, jj_0, jj_set, jj_get, jj_getD, E_T, E_gl, E_br, tdesc, reduceCtorEq, Nat.reduceAdd, Nat.reduceSub, Nat.reduceLT, Nat.reduceLeDiff, Nat.reduceEqDiff, bxm, tabs, fieldPlaceT, evLoad, ldV, ofCells, TD.isAgg, evA, lenAV, slice_take, hp8a, hp8b, hp8c, hp8d, hc2, hg11, hg12, hc16, tys]; rfl) ?_
          refine thenN ?_
          refine Wp.block ?_
          obtain ⟨o17, ho17, h⟩ := bind_some h
          refine Wp.loop ?_
          refine Tw.mono (Wk.wpL (s2 := ⟨.sl (List.map cFrame from_) :: .sl (List.map cFrame to) :: jj 3 (.row 0 3 0 ((r3).length) :: .row 1 3 0 ((r4).length) :: .ptr 2 0 0 :: .ptr 5 0 0 :: jj 1 (.sl (List.map (cInt .i64) p8) :: .row 8 1 0 ((r9.1).length) :: jj 1 (.row 9 1 0 ((r10.1).length) :: jj 66 (.v (.int .i64 (r5.Out.length : Int)) :: .v (.int .i64 0) :: jj 90 [])))), St [some ⟨3, true, true, List.map cFrame r3⟩, some ⟨3, true, true, List.map cFrame r4⟩, some ⟨3, false, false, [[.v (.int .i64 r5.Common), .row 3 1 0 ((r5.Out).length), .row 4 1 0 ((r5.In).length)]]⟩, some ⟨1, false, true, List.map (cInt .i64) r5.Out⟩, some ⟨1, false, true, List.map (cInt .i64) r5.In⟩, some ⟨3, false, false, [[.v (.int .i64 r5.Common), .row 6 1 0 ((r5.Out).length), .row 7 1 0 ((r5.In).length)]]⟩, some ⟨1, true, true, List.map (cInt .i64) r5.Out⟩, some ⟨1, true, true, List.map (cInt .i64) r5.In⟩, some ⟨1, false, true, List.map (cInt .i64) r9.1⟩, some ⟨1, false, true, List.map (cInt .i64) r10.1⟩], none, 0⟩) ?_ (f7_l0_ok hU r5 from_ to r3 r4 p8 r9 r10 r5.Out 0 o17 ho17)) (fun ex s1 hp => ?_)
          · refine Wk.share hU [8] ?_
            simp (decide := true) only [share, fresh1, reduceIte, reduceCtorEq, Nat.reduceAdd, bxm]
            refine Wk.weak hU [some 0, some 1, some 2, some 3, some 4, some 5, some 6, some 7, some 9, some 10] _ (by decide) ?_ ?_
            · refine .obj rfl ?_ ?_
              · first | exact .same _ _ _ | (refine WO.same_eq ?_; simp only [bxw, ha7b, hp8e, tys]; done)
              refine .obj rfl ?_ ?_
              · first | exact .same _ _ _ | (refine WO.same_eq ?_; simp only [bxw, ha7b, hp8e, tys]; done)
              refine .obj rfl ?_ ?_
              · refine .mk ?_ (by simp only [bxm, leaf_ptr]) nofun
                refine .cons ?_ .nil
                (repeat' (first | exact WVs.nil | (refine WVs.jjT (by simp only [jj_length, List.length_cons, List.length_nil, Nat.reduceAdd, Nat.reduceLeDiff]) ?_; try simp (decide := true) only [jj_0, jj_drop, List.drop_succ_cons, List.drop_zero, List.drop_nil, Nat.reduceSub, Nat.reduceLeDiff, ↓reduceIte]) | refine WVs.cons ?_ ?_ | (refine WVs.aggW ?_) | (refine WVs.fnW ?_ ?_))) <;> (first | exact WV.junk _ | exact WV.keep rfl | exact WV.row rfl | exact WV.nil rfl | exact WV.nilsl | exact WV.emp rfl | exact WV.empsl | exact WV.ptr rfl | (refine WV.row_eq rfl ?_; simp only [bxw, ha7b, hp8f, tys]) | (refine WV.view (k := 3) ?_; simp (decide := true) only [reify, share, fresh1, reduceIte, reduceCtorEq, Nat.reduceAdd, bxm, hp8e, tys, slice_take, Int.toNat_zero, List.drop_zero, true_and, and_true, hp8c, hp8d]) | (refine WV.eq ?_ rfl; simp only [bxw, ha7b, hp8e, tys]))
              refine .obj rfl ?_ ?_
              · first | exact .same _ _ _ | (refine WO.same_eq ?_; simp only [bxw, ha7b, hp8e, tys]; done)
              refine .obj rfl ?_ ?_
              · first | exact .same _ _ _ | (refine WO.same_eq ?_; simp only [bxw, ha7b, hp8e, tys]; done)
              refine .obj rfl ?_ ?_
              · refine .mk ?_ (by simp only [bxm, leaf_ptr]) nofun
                refine .cons ?_ .nil
                (repeat' (first | exact WVs.nil | (refine WVs.jjT (by simp only [jj_length, List.length_cons, List.length_nil, Nat.reduceAdd, Nat.reduceLeDiff]) ?_; try simp (decide := true) only [jj_0, jj_drop, List.drop_succ_cons, List.drop_zero, List.drop_nil, Nat.reduceSub, Nat.reduceLeDiff, ↓reduceIte]) | refine WVs.cons ?_ ?_ | (refine WVs.aggW ?_) | (refine WVs.fnW ?_ ?_))) <;> (first | exact WV.junk _ | exact WV.keep rfl | exact WV.row rfl | exact WV.nil rfl | exact WV.nilsl | exact WV.emp rfl | exact WV.empsl | exact WV.ptr rfl | (refine WV.row_eq rfl ?_; simp only [bxw, ha7b, hp8f, tys]) | (refine WV.view (k := 3) ?_; simp (decide := true) only [reify, share, fresh1, reduceIte, reduceCtorEq, Nat.reduceAdd, bxm, hp8e, tys, slice_take, Int.toNat_zero, List.drop_zero, true_and, and_true, hp8c, hp8d]) | (refine WV.eq ?_ rfl; simp only [bxw, ha7b, hp8e, tys]))
              refine .obj rfl ?_ ?_
              · first | exact .same _ _ _ | (refine WO.same_eq ?_; simp only [bxw, ha7b, hp8e, tys]; done)
              refine .obj rfl ?_ ?_
              · first | exact .same _ _ _ | (refine WO.same_eq ?_; simp only [bxw, ha7b, hp8e, tys]; done)
              refine .obj rfl ?_ ?_
              · first | exact .same _ _ _ | (refine WO.same_eq ?_; simp only [bxw, ha7b, hp8e, tys]; done)
              refine .obj rfl ?_ ?_
              · first | exact .same _ _ _ | (refine WO.same_eq ?_; simp only [bxw, ha7b, hp8e, tys]; done)
              exact .nil
            · (repeat' (first | exact WVs.nil | (refine WVs.jjT (by simp only [jj_length, List.length_cons, List.length_nil, Nat.reduceAdd, Nat.reduceLeDiff]) ?_; try simp (decide := true) only [jj_0, jj_drop, List.drop_succ_cons, List.drop_zero, List.drop_nil, Nat.reduceSub, Nat.reduceLeDiff, ↓reduceIte]) | refine WVs.cons ?_ ?_ | (refine WVs.aggW ?_) | (refine WVs.fnW ?_ ?_))) <;> (first | exact WV.junk _ | exact WV.keep rfl | exact WV.row rfl | exact WV.nil rfl | exact WV.nilsl | exact WV.emp rfl | exact WV.empsl | exact WV.ptr rfl | (refine WV.row_eq rfl ?_; simp only [bxw, ha7b, hp8f, tys]) | (refine WV.view (k := 3) ?_; simp (decide := true) only [reify, share, fresh1, reduceIte, reduceCtorEq, Nat.reduceAdd, bxm, hp8e, tys, slice_take, Int.toNat_zero, List.drop_zero, true_and, and_true, hp8c, hp8d]) | (refine WV.eq ?_ rfl; simp only [bxw, ha7b, hp8e, tys]))
          · obtain ⟨rfl, hp⟩ := hp
            refine blkE ?_
            refine thenN ?_
            refine hp.wp ?_
            refine Wp.seq ?_
            refine Wp.seq ?_
            refine Wp.region hU (f7_ci_ok _) (by simp (decide := true) (disch := (first | omega | (simp only [List.length_append, List.length_map, List.length_cons, List.length_nil]; omega))) only [evOp, putTm, ↓reduceIte, jj_0, jj_set, jj_get, jj_getD, E_T, E_gl, E_br, tdesc, reduceCtorEq, Nat.reduceAdd, Nat.reduceSub, Nat.reduceLT, Nat.reduceLeDiff, Nat.reduceEqDiff, bxm, tabs, fieldPlaceT, evLoad, ldV, ofCells, TD.isAgg, evA, lenAV, slice_take, hp8a, hp8b, hp8c, hp8d, hc2, hg11, hg12, hc16, tys]; rfl) ?_
            refine thenN ?_
            refine Wp.block ?_
            obtain ⟨o20, ho20, h⟩ := bind_some h
            refine Wp.loop ?_
            refine Tw.mono (Wk.wpL (s2 := ⟨.sl (List.map cFrame from_) :: .sl (List.map cFrame to) :: jj 3 (.row 0 3 0 ((r3).length) :: .row 1 3 0 ((r4).length) :: .ptr 2 0 0 :: .ptr 5 0 0 :: jj 1 (.sl (List.map (cInt .i64) p8) :: .row 8 1 0 ((r9.1).length) :: jj 1 (.row 9 1 0 ((r10.1).length) :: jj 77 (.v (.int .i64 (r5.In.length : Int)) :: .v (.int .i64 0) :: jj 79 [])))), St [some ⟨3, true, true, List.map cFrame r3⟩, some ⟨3, true, true, List.map cFrame r4⟩, some ⟨3, false, false, [[.v (.int .i64 r5.Common), .row 3 1 0 ((o17).length), .row 4 1 0 ((r5.In).length)]]⟩, some ⟨1, false, true, List.map (cInt .i64) o17⟩, some ⟨1, false, true, List.map (cInt .i64) r5.In⟩, some ⟨3, false, false, [[.v (.int .i64 r5.Common), .row 6 1 0 ((r5.Out).length), .row 7 1 0 ((r5.In).length)]]⟩, some ⟨1, true, true, List.map (cInt .i64) r5.Out⟩, some ⟨1, true, true, List.map (cInt .i64) r5.In⟩, some ⟨1, false, true, List.map (cInt .i64) r9.1⟩, some ⟨1, false, true, List.map (cInt .i64) r10.1⟩], none, 0⟩) ?_ (f7_l1_ok hU r5 from_ to r3 r4 p8 r9 r10 o17 r5.In 0 o20 ho20)) (fun ex s1 hp => ?_)
            · try simp only [jjs]
              refine Wk.weak hU [some 0, some 1, some 2, some 3, some 4, some 5, some 6, some 7, some 8, some 9] _ (by decide) ?_ ?_
              · refine .obj rfl ?_ ?_
                · first | exact .same _ _ _ | (refine WO.same_eq ?_; simp only [bxw, ha7b, hp8e, tys]; done)
                refine .obj rfl ?_ ?_
                · first | exact .same _ _ _ | (refine WO.same_eq ?_; simp only [bxw, ha7b, hp8e, tys]; done)
                refine .obj rfl ?_ ?_
                · refine .mk ?_ (by simp only [bxm, leaf_ptr]) nofun
                  refine .cons ?_ .nil
                  (repeat' (first | exact WVs.nil | (refine WVs.jjT (by simp only [jj_length, List.length_cons, List.length_nil, Nat.reduceAdd, Nat.reduceLeDiff]) ?_; try simp (decide := true) only [jj_0, jj_drop, List.drop_succ_cons, List.drop_zero, List.drop_nil, Nat.reduceSub, Nat.reduceLeDiff, ↓reduceIte]) | refine WVs.cons ?_ ?_ | (refine WVs.aggW ?_) | (refine WVs.fnW ?_ ?_))) <;> (first | exact WV.junk _ | exact WV.keep rfl | exact WV.row rfl | exact WV.nil rfl | exact WV.nilsl | exact WV.emp rfl | exact WV.empsl | exact WV.ptr rfl | (refine WV.row_eq rfl ?_; simp only [bxw, ha7b, hp8f, tys]) | (refine WV.view (k := 3) ?_; simp (decide := true) only [reify, share, fresh1, reduceIte, reduceCtorEq, Nat.reduceAdd, bxm, hp8e, tys, slice_take, Int.toNat_zero, List.drop_zero, true_and, and_true, hp8c, hp8d]) | (refine WV.eq ?_ rfl; simp only [bxw, ha7b, hp8e, tys]))
                refine .obj rfl ?_ ?_
                · first | exact .same _ _ _ | (refine WO.same_eq ?_; simp only [bxw, ha7b, hp8e, tys]; done)
                refine .obj rfl ?_ ?_
                · first | exact .same _ _ _ | (refine WO.same_eq ?_; simp only [bxw, ha7b, hp8e, tys]; done)
                refine .obj rfl ?_ ?_
                · refine .mk ?_ (by simp only [bxm, leaf_ptr]) nofun
                  refine .cons ?_ .nil
                  (repeat' (first | exact WVs.nil | (refine WVs.jjT (by simp only [jj_length, List.length_cons, List.length_nil, Nat.reduceAdd, Nat.reduceLeDiff]) ?_; try simp (decide := true) only [jj_0, jj_drop, List.drop_succ_cons, List.drop_zero, List.drop_nil, Nat.reduceSub, Nat.reduceLeDiff, ↓reduceIte]) | refine WVs.cons ?_ ?_ | (refine WVs.aggW ?_) | (refine WVs.fnW ?_ ?_))) <;> (first | exact WV.junk _ | exact WV.keep rfl | exact WV.row rfl | exact WV.nil rfl | exact WV.nilsl | exact WV.emp rfl | exact WV.empsl | exact WV.ptr rfl | (refine WV.row_eq rfl ?_; simp only [bxw, ha7b, hp8f, tys]) | (refine WV.view (k := 3) ?_; simp (decide := true) only [reify, share, fresh1, reduceIte, reduceCtorEq, Nat.reduceAdd, bxm, hp8e, tys, slice_take, Int.toNat_zero, List.drop_zero, true_and, and_true, hp8c, hp8d]) | (refine WV.eq ?_ rfl; simp only [bxw, ha7b, hp8e, tys]))
                refine .obj rfl ?_ ?_
                · first | exact .same _ _ _ | (refine WO.same_eq ?_; simp only [bxw, ha7b, hp8e, tys]; done)
                refine .obj rfl ?_ ?_
                · first | exact .same _ _ _ | (refine WO.same_eq ?_; simp only [bxw, ha7b, hp8e, tys]; done)
                refine .obj rfl ?_ ?_
                · first | exact .same _ _ _ | (refine WO.same_eq ?_; simp only [bxw, ha7b, hp8e, tys]; done)
                refine .obj rfl ?_ ?_
                · first | exact .same _ _ _ | (refine WO.same_eq ?_; simp only [bxw, ha7b, hp8e, tys]; done)
                exact .nil
              · (repeat' (first | exact WVs.nil | (refine WVs.jjT (by simp only [jj_length, List.length_cons, List.length_nil, Nat.reduceAdd, Nat.reduceLeDiff]) ?_; try simp (decide := true) only [jj_0, jj_drop, List.drop_succ_cons, List.drop_zero, List.drop_nil, Nat.reduceSub, Nat.reduceLeDiff, ↓reduceIte]) | refine WVs.cons ?_ ?_ | (refine WVs.aggW ?_) | (refine WVs.fnW ?_ ?_))) <;> (first | exact WV.junk _ | exact WV.keep rfl | exact WV.row rfl | exact WV.nil rfl | exact WV.nilsl | exact WV.emp rfl | exact WV.empsl | exact WV.ptr rfl | (refine WV.row_eq rfl ?_; simp only [bxw, ha7b, hp8f, tys]) | (refine WV.view (k := 3) ?_; simp (decide := true) only [reify, share, fresh1, reduceIte, reduceCtorEq, Nat.reduceAdd, bxm, hp8e, tys, slice_take, Int.toNat_zero, List.drop_zero, true_and, and_true, hp8c, hp8d]) | (refine WV.eq ?_ rfl; simp only [bxw, ha7b, hp8e, tys]))
            · obtain ⟨rfl, hp⟩ := hp
              refine blkE ?_
              refine thenN ?_
              refine hp.wp ?_
              refine Wp.seq ?_
              refine Wp.seq ?_
              refine Wp.region hU (f7_ci_ok _) (by simp (decide := true) (disch := (first | omega | (simp only [List.length_append, List.length_map, List.length_cons, List.length_nil]; omega))) only [evOp, putTm, ↓reduceIte, jj_0, jj_set, jj_get, jj_getD, E_T, E_gl, E_br, tdesc, reduceCtorEq, Nat.reduceAdd, Nat.reduceSub, Nat.reduceLT, Nat.reduceLeDiff, Nat.reduceEqDiff, bxm, tabs, slice_take, hp8a, hp8b, hp8c, hp8d, hc2, hg11, hg12, hc16, tys]; rfl) ?_
              refine thenN ?_
              refine Wp.block ?_
              obtain ⟨o23, ho23, h⟩ := bind_some h
              refine Wp.loop ?_
              refine Tw.mono (Wk.wpL (s2 := ⟨.sl (List.map cFrame from_) :: .sl (List.map cFrame to) :: jj 3 (.row 0 3 0 ((r3).length) :: .row 1 3 0 ((r4).length) :: .ptr 2 0 0 :: .ptr 5 0 0 :: jj 1 (.sl (List.map (cInt .i64) p8) :: .row 8 1 0 ((r9.1).length) :: jj 1 (.row 9 1 0 ((r10.1).length) :: jj 3 (.v (.int .i64 0) :: jj 154 [])))), St [some ⟨3, true, true, List.map cFrame r3⟩, some ⟨3, true, true, List.map cFrame r4⟩, some ⟨3, false, false, [[.v (.int .i64 r5.Common), .row 3 1 0 ((o17).length), .row 4 1 0 ((o20).length)]]⟩, some ⟨1, false, true, List.map (cInt .i64) o17⟩, some ⟨1, false, true, List.map (cInt .i64) o20⟩, some ⟨3, false, false, [[.v (.int .i64 r5.Common), .row 6 1 0 ((r5.Out).length), .row 7 1 0 ((r5.In).length)]]⟩, some ⟨1, true, true, List.map (cInt .i64) r5.Out⟩, some ⟨1, true, true, List.map (cInt .i64) r5.In⟩, some ⟨1, false, true, List.map (cInt .i64) r9.1⟩, some ⟨1, false, true, List.map (cInt .i64) r10.1⟩], none, 0⟩) ?_ (f7_l2_ok hU from_ to r3 r4 r5 p8 r9 r10 o17 o20 0 o23 ho23)) (fun ex s1 hp => ?_)
              · try simp only [jjs]
                refine Wk.weak hU [some 0, some 1, some 2, some 3, some 4, some 5, some 6, some 7, some 8, some 9] _ (by decide) ?_ ?_
                · refine .obj rfl ?_ ?_
                  · first | exact .same _ _ _ | (refine WO.same_eq ?_; simp only [bxw, ha7b, hp8e, tys]; done)
                  refine .obj rfl ?_ ?_
                  · first | exact .same _ _ _ | (refine WO.same_eq ?_; simp only [bxw, ha7b, hp8e, tys]; done)
                  refine .obj rfl ?_ ?_
                  · refine .mk ?_ (by simp only [bxm, leaf_ptr]) nofun
                    refine .cons ?_ .nil
                    (repeat' (first | exact WVs.nil | (refine WVs.jjT (by simp only [jj_length, List.length_cons, List.length_nil, Nat.reduceAdd, Nat.reduceLeDiff]) ?_; try simp (decide := true) only [jj_0, jj_drop, List.drop_succ_cons, List.drop_zero, List.drop_nil, Nat.reduceSub, Nat.reduceLeDiff, ↓reduceIte]) | refine WVs.cons ?_ ?_ | (refine WVs.aggW ?_) | (refine WVs.fnW ?_ ?_))) <;> (first | exact WV.junk _ | exact WV.keep rfl | exact WV.row rfl | exact WV.nil rfl | exact WV.nilsl | exact WV.emp rfl | exact WV.empsl | exact WV.ptr rfl | (refine WV.row_eq rfl ?_; simp only [bxw, ha7b, hp8f, tys]) | (refine WV.view (k := 3) ?_; simp (decide := true) only [reify, share, fresh1, reduceIte, reduceCtorEq, Nat.reduceAdd, bxm, hp8e, tys, slice_take, Int.toNat_zero, List.drop_zero, true_and, and_true, hp8c, hp8d]) | (refine WV.eq ?_ rfl; simp only [bxw, ha7b, hp8e, tys]))
                  refine .obj rfl ?_ ?_
                  · first | exact .same _ _ _ | (refine WO.same_eq ?_; simp only [bxw, ha7b, hp8e, tys]; done)
                  refine .obj rfl ?_ ?_
                  · first | exact .same _ _ _ | (refine WO.same_eq ?_; simp only [bxw, ha7b, hp8e, tys]; done)
                  refine .obj rfl ?_ ?_
                  · refine .mk ?_ (by simp only [bxm, leaf_ptr]) nofun
                    refine .cons ?_ .nil
                    (repeat' (first | exact WVs.nil | (refine WVs.jjT (by simp only [jj_length, List.length_cons, List.length_nil, Nat.reduceAdd, Nat.reduceLeDiff]) ?_; try simp (decide := true) only [jj_0, jj_drop, List.drop_succ_cons, List.drop_zero, List.drop_nil, Nat.reduceSub, Nat.reduceLeDiff, ↓reduceIte]) | refine WVs.cons ?_ ?_ | (refine WVs.aggW ?_) | (refine WVs.fnW ?_ ?_))) <;> (first | exact WV.junk _ | exact WV.keep rfl | exact WV.row rfl | exact WV.nil rfl | exact WV.nilsl | exact WV.emp rfl | exact WV.empsl | exact WV.ptr rfl | (refine WV.row_eq rfl ?_; simp only [bxw, ha7b, hp8f, tys]) | (refine WV.view (k := 3) ?_; simp (decide := true) only [reify, share, fresh1, reduceIte, reduceCtorEq, Nat.reduceAdd, bxm, hp8e, tys, slice_take, Int.toNat_zero, List.drop_zero, true_and, and_true, hp8c, hp8d]) | (refine WV.eq ?_ rfl; simp only [bxw, ha7b, hp8e, tys]))
                  refine .obj rfl ?_ ?_
                  · first | exact .same _ _ _ | (refine WO.same_eq ?_; simp only [bxw, ha7b, hp8e, tys]; done)
                  refine .obj rfl ?_ ?_
                  · first | exact .same _ _ _ | (refine WO.same_eq ?_; simp only [bxw, ha7b, hp8e, tys]; done)
                  refine .obj rfl ?_ ?_
                  · first | exact .same _ _ _ | (refine WO.same_eq ?_; simp only [bxw, ha7b, hp8e, tys]; done)
                  refine .obj rfl ?_ ?_
                  · first | exact .same _ _ _ | (refine WO.same_eq ?_; simp only [bxw, ha7b, hp8e, tys]; done)
                  exact .nil
                · (repeat' (first | exact WVs.nil | (refine WVs.jjT (by simp only [jj_length, List.length_cons, List.length_nil, Nat.reduceAdd, Nat.reduceLeDiff]) ?_; try simp (decide := true) only [jj_0, jj_drop, List.drop_succ_cons, List.drop_zero, List.drop_nil, Nat.reduceSub, Nat.reduceLeDiff, ↓reduceIte]) | refine WVs.cons ?_ ?_ | (refine WVs.aggW ?_) | (refine WVs.fnW ?_ ?_))) <;> (first | exact WV.junk _ | exact WV.keep rfl | exact WV.row rfl | exact WV.nil rfl | exact WV.nilsl | exact WV.emp rfl | exact WV.empsl | exact WV.ptr rfl | (refine WV.row_eq rfl ?_; simp only [bxw, ha7b, hp8f, tys]) | (refine WV.view (k := 3) ?_; simp (decide := true) only [reify, share, fresh1, reduceIte, reduceCtorEq, Nat.reduceAdd, bxm, hp8e, tys, slice_take, Int.toNat_zero, List.drop_zero, true_and, and_true, hp8c, hp8d]) | (refine WV.eq ?_ rfl; simp only [bxw, ha7b, hp8e, tys]))
              · obtain ⟨rfl, hp⟩ := hp
                refine blkE ?_
                refine thenN ?_
                refine hp.wp ?_
                refine Wp.seq ?_
                refine Wp.seq ?_
                refine Wp.region hU (f7_ci_ok _) (by simp (decide := true) (disch := (first | omega | (simp only [List.length_append, List.length_map, List.length_cons, List.length_nil]; omega))) only [evOp, putTm, ↓reduceIte, jj_0, jj_set, jj_get, jj_getD, E_T, E_gl, E_br, tdesc, reduceCtorEq, Nat.reduceAdd, Nat.reduceSub, Nat.reduceLT, Nat.reduceLeDiff, Nat.reduceEqDiff, bxm, tabs, evA, lenAV, slice_take, hp8a, hp8b, hp8c, hp8d, hc2, hg11, hg12, hc16, tys]; rfl) ?_
                refine thenN ?_
                refine Wp.block ?_
                obtain ⟨o27, ho27, h⟩ := bind_some h
                refine Wp.loop ?_
                refine Tw.mono (Wk.wpL (s2 := ⟨.sl (List.map cFrame from_) :: .sl (List.map cFrame to) :: jj 3 (.row 0 3 0 ((r3).length) :: .row 1 3 0 ((r4).length) :: jj 1 (.ptr 2 0 0 :: jj 1 (.sl (List.map (cInt .i64) p8) :: .row 5 1 0 ((r9.1).length) :: jj 1 (.row 6 1 0 ((r10.1).length) :: jj 101 (.v (.int .i64 (r9.1.length : Int)) :: .v (.int .i64 0) :: jj 55 []))))), St [some ⟨3, true, true, List.map cFrame r3⟩, some ⟨3, true, true, List.map cFrame r4⟩, some ⟨3, false, false, [[.v (.int .i64 r5.Common), .row 3 1 0 ((r5.Out).length), .row 4 1 0 ((r5.In).length)]]⟩, some ⟨1, true, true, List.map (cInt .i64) r5.Out⟩, some ⟨1, true, true, List.map (cInt .i64) r5.In⟩, some ⟨1, false, true, List.map (cInt .i64) r9.1⟩, some ⟨1, false, true, List.map (cInt .i64) r10.1⟩], none, 0⟩) ?_ (f7_l3_ok hU r9 from_ to r3 r4 r5 p8 r10 r9.1 0 o27 ho27)) (fun ex s1 hp => ?_)
                · try simp only [jjs]
                  refine Wk.weak hU [some 0, some 1, some 2, some 3, some 4, some 5, some 6] _ (by decide) ?_ ?_
                  · refine .obj rfl ?_ ?_
                    · first | exact .same _ _ _ | (refine WO.same_eq ?_; simp only [bxw, ha7b, hp8e, tys]; done)
                    refine .obj rfl ?_ ?_
                    · first | exact .same _ _ _ | (refine WO.same_eq ?_; simp only [bxw, ha7b, hp8e, tys]; done)
                    refine .obj rfl ?_ ?_
                    · refine .mk ?_ (by simp only [bxm, leaf_ptr]) nofun
                      refine .cons ?_ .nil
                      (repeat' (first | exact WVs.nil | (refine WVs.jjT (by simp only [jj_length, List.length_cons, List.length_nil, Nat.reduceAdd, Nat.reduceLeDiff]) ?_; try simp (decide := true) only [jj_0, jj_drop, List.drop_succ_cons, List.drop_zero, List.drop_nil, Nat.reduceSub, Nat.reduceLeDiff, ↓reduceIte]) | refine WVs.cons ?_ ?_ | (refine WVs.aggW ?_) | (refine WVs.fnW ?_ ?_))) <;> (first | exact WV.junk _ | exact WV.keep rfl | exact WV.row rfl | exact WV.nil rfl | exact WV.nilsl | exact WV.emp rfl | exact WV.empsl | exact WV.ptr rfl | (refine WV.row_eq rfl ?_; simp only [bxw, ha7b, hp8f, tys]) | (refine WV.view (k := 3) ?_; simp (decide := true) only [reify, share, fresh1, reduceIte, reduceCtorEq, Nat.reduceAdd, bxm, hp8e, tys, slice_take, Int.toNat_zero, List.drop_zero, true_and, and_true, hp8c, hp8d]) | (refine WV.eq ?_ rfl; simp only [bxw, ha7b, hp8e, tys]))
                    refine .obj rfl ?_ ?_
                    · first | exact .same _ _ _ | (refine WO.same_eq ?_; simp only [bxw, ha7b, hp8e, tys]; done)
                    refine .obj rfl ?_ ?_
                    · first | exact .same _ _ _ | (refine WO.same_eq ?_; simp only [bxw, ha7b, hp8e, tys]; done)
                    refine .obj rfl ?_ ?_
                    · first | exact .same _ _ _ | (refine WO.same_eq ?_; simp only [bxw, ha7b, hp8e, tys]; done)
                    refine .obj rfl ?_ ?_
                    · first | exact .same _ _ _ | (refine WO.same_eq ?_; simp only [bxw, ha7b, hp8e, tys]; done)
                    exact .nil
                  · (repeat' (first | exact WVs.nil | (refine WVs.jjT (by simp only [jj_length, List.length_cons, List.length_nil, Nat.reduceAdd, Nat.reduceLeDiff]) ?_; try simp (decide := true) only [jj_0, jj_drop, List.drop_succ_cons, List.drop_zero, List.drop_nil, Nat.reduceSub, Nat.reduceLeDiff, ↓reduceIte]) | refine WVs.cons ?_ ?_ | (refine WVs.aggW ?_) | (refine WVs.fnW ?_ ?_))) <;> (first | exact WV.junk _ | exact WV.keep rfl | exact WV.row rfl | exact WV.nil rfl | exact WV.nilsl | exact WV.emp rfl | exact WV.empsl | exact WV.ptr rfl | (refine WV.row_eq rfl ?_; simp only [bxw, ha7b, hp8f, tys]) | (refine WV.view (k := 3) ?_; simp (decide := true) only [reify, share, fresh1, reduceIte, reduceCtorEq, Nat.reduceAdd, bxm, hp8e, tys, slice_take, Int.toNat_zero, List.drop_zero, true_and, and_true, hp8c, hp8d]) | (refine WV.eq ?_ rfl; simp only [bxw, ha7b, hp8e, tys]))
                · obtain ⟨rfl, hp⟩ := hp
                  refine blkE ?_
                  refine thenN ?_
                  refine hp.wp ?_
                  refine Wp.seq ?_
                  refine Wp.seq ?_
                  refine Wp.region hU (f7_ci_ok _) (by simp (decide := true) (disch := (first | omega | (simp only [List.length_append, List.length_map, List.length_cons, List.length_nil]; omega))) only [evOp, putTm, ↓reduceIte, jj_0, jj_set, jj_get, jj_getD, E_T, E_gl, E_br, tdesc, reduceCtorEq, Nat.reduceAdd, Nat.reduceSub, Nat.reduceLT, Nat.reduceLeDiff, Nat.reduceEqDiff, bxm, tabs, evA, lenAV, slice_take, hp8a, hp8b, hp8c, hp8d, hc2, hg11, hg12, hc16, tys]; rfl) ?_
                  refine thenN ?_
                  refine Wp.block ?_
                  obtain ⟨o30, ho30, h⟩ := bind_some h
                  refine Wp.loop ?_
                  refine Tw.mono (Wk.wpL (s2 := ⟨.sl (List.map cFrame from_) :: .sl (List.map cFrame to) :: jj 3 (.row 0 3 0 ((r3).length) :: .row 1 3 0 ((r4).length) :: jj 1 (.ptr 2 0 0 :: jj 1 (.sl (List.map (cInt .i64) p8) :: jj 2 (.row 5 1 0 ((r10.1).length) :: jj 110 (.v (.int .i64 (r10.1.length : Int)) :: .v (.int .i64 0) :: jj 46 []))))), St [some ⟨3, true, true, List.map cFrame r3⟩, some ⟨3, true, true, List.map cFrame r4⟩, some ⟨3, false, false, [[.v (.int .i64 r5.Common), .row 3 1 0 ((r5.Out).length), .row 4 1 0 ((r5.In).length)]]⟩, some ⟨1, true, true, List.map (cInt .i64) r5.Out⟩, some ⟨1, true, true, List.map (cInt .i64) r5.In⟩, some ⟨1, false, true, List.map (cInt .i64) r10.1⟩], none, 0⟩) ?_ (f7_l4_ok hU r10 from_ to r3 r4 r5 p8 r10.1 0 o30 ho30)) (fun ex s1 hp => ?_)
                  · try simp only [jjs]
                    refine Wk.weak hU [some 0, some 1, some 2, some 3, some 4, some 5] _ (by decide) ?_ ?_
                    · refine .obj rfl ?_ ?_
                      · first | exact .same _ _ _ | (refine WO.same_eq ?_; simp only [bxw, ha7b, hp8e, tys]; done)
                      refine .obj rfl ?_ ?_
                      · first | exact .same _ _ _ | (refine WO.same_eq ?_; simp only [bxw, ha7b, hp8e, tys]; done)
                      refine .obj rfl ?_ ?_
                      · refine .mk ?_ (by simp only [bxm, leaf_ptr]) nofun
                        refine .cons ?_ .nil
                        (repeat' (first | exact WVs.nil | (refine WVs.jjT (by simp only [jj_length, List.length_cons, List.length_nil, Nat.reduceAdd, Nat.reduceLeDiff]) ?_; try simp (decide := true) only [jj_0, jj_drop, List.drop_succ_cons, List.drop_zero, List.drop_nil, Nat.reduceSub, Nat.reduceLeDiff, ↓reduceIte]) | refine WVs.cons ?_ ?_ | (refine WVs.aggW ?_) | (refine WVs.fnW ?_ ?_))) <;> (first | exact WV.junk _ | exact WV.keep rfl | exact WV.row rfl | exact WV.nil rfl | exact WV.nilsl | exact WV.emp rfl | exact WV.empsl | exact WV.ptr rfl | (refine WV.row_eq rfl ?_; simp only [bxw, ha7b, hp8f, tys]) | (refine WV.view (k := 3) ?_; simp (decide := true) only [reify, share, fresh1, reduceIte, reduceCtorEq, Nat.reduceAdd, bxm, hp8e, tys, slice_take, Int.toNat_zero, List.drop_zero, true_and, and_true, hp8c, hp8d]) | (refine WV.eq ?_ rfl; simp only [bxw, ha7b, hp8e, tys]))
                      refine .obj rfl ?_ ?_
                      · first | exact .same _ _ _ | (refine WO.same_eq ?_; simp only [bxw, ha7b, hp8e, tys]; done)
                      refine .obj rfl ?_ ?_
                      · first | exact .same _ _ _ | (refine WO.same_eq ?_; simp only [bxw, ha7b, hp8e, tys]; done)
                      refine .obj rfl ?_ ?_
                      · first | exact .same _ _ _ | (refine WO.same_eq ?_; simp only [bxw, ha7b, hp8e, tys]; done)
                      exact .nil
                    · (repeat' (first | exact WVs.nil | (refine WVs.jjT (by simp only [jj_length, List.length_cons, List.length_nil, Nat.reduceAdd, Nat.reduceLeDiff]) ?_; try simp (decide := true) only [jj_0, jj_drop, List.drop_succ_cons, List.drop_zero, List.drop_nil, Nat.reduceSub, Nat.reduceLeDiff, ↓reduceIte]) | refine WVs.cons ?_ ?_ | (refine WVs.aggW ?_) | (refine WVs.fnW ?_ ?_))) <;> (first | exact WV.junk _ | exact WV.keep rfl | exact WV.row rfl | exact WV.nil rfl | exact WV.nilsl | exact WV.emp rfl | exact WV.empsl | exact WV.ptr rfl | (refine WV.row_eq rfl ?_; simp only [bxw, ha7b, hp8f, tys]) | (refine WV.view (k := 3) ?_; simp (decide := true) only [reify, share, fresh1, reduceIte, reduceCtorEq, Nat.reduceAdd, bxm, hp8e, tys, slice_take, Int.toNat_zero, List.drop_zero, true_and, and_true, hp8c, hp8d]) | (refine WV.eq ?_ rfl; simp only [bxw, ha7b, hp8e, tys]))
                  · obtain ⟨rfl, hp⟩ := hp
                    refine blkE ?_
                    refine thenN ?_
                    refine hp.wp ?_
                    refine Wp.seq ?_
                    refine Wp.region hU (f7_ci_ok _) (by simp (decide := true) (disch := (first | omega | (simp only [List.length_append, List.length_map, List.length_cons, List.length_nil]; omega))) only [evOp, putTm, ↓reduceIte, jj_0, jj_set, jj_get, jj_getD, E_T, E_gl, E_br, tdesc, reduceCtorEq, Nat.reduceAdd, Nat.reduceSub, Nat.reduceLT, Nat.reduceLeDiff, Nat.reduceEqDiff, bxm, tabs, evCall, mapO, importL, import2L, import1, import2, share, fresh1, freshL, slice_take, hp8a, hp8b, hp8c, hp8d, hr10c, hc2, hg11, hg12, hc16, tys]; rfl) ?_
                    refine thenN ?_
                    refine Wp.seq ?_
                    obtain ⟨r33, hr33, h⟩ := bind_some h
                    have hr33c : ∀ σ, f7_ci 21 [.sl (List.map cFrame from_)] σ = some (.tup [.sl (List.map (cInt .i64) r33.1), .v (.int .i64 r33.2)], σ, none) := fun σ => f21_call hr33 σ
                    refine Wp.region hU (f7_ci_ok _) (by simp (decide := true) (disch := (first | omega | (simp only [List.length_append, List.length_map, List.length_cons, List.length_nil]; omega))) only [evOp, putTm, ↓reduceIte, jj_0, jj_set, jj_get, jj_getD, E_T, E_gl, E_br, tdesc, reduceCtorEq, Nat.reduceAdd, Nat.reduceSub, Nat.reduceLT, Nat.reduceLeDiff, Nat.reduceEqDiff, bxm, tabs, evCall, mapO, importL, import2L, import1, import2, share, fresh1, freshL, hr33c, slice_take, hp8a, hp8b, hp8c, hp8d, hc2, hg11, hg12, hc16, tys]; rfl) ?_
                    refine thenN ?_
                    obtain ⟨o34, ho34, h⟩ := bind_some h
                    refine Wp.seq1 (JP := (fun ex s1 => ex = .nrm ∧ Wk base c00 nilStore s1 ⟨jj 4 (.v (.bool o34) :: jj 167 []), St [], none, 0⟩)) ?_ (fun ex s1 hp => ?_)
                    · replace h := ho34
                      rcases Bool.eq_false_or_eq_true (r15) with hg17 | hg17
                      · rw [if_t hg17] at h
                        rcases Bool.eq_false_or_eq_true (r13) with hg18 | hg18
                        · rw [if_t hg18] at h
                          obtain ⟨r35, hr35, h⟩ := bind_some h
                          have hr35c : ∀ σ, f7_ci 9 [.sl (List.map (cInt .i64) r10.1), .sl (List.map (cInt .i64) r33.1)] σ = some (.v (.bool r35), σ, none) := fun σ => f9_call hr35 σ
                          rcases Bool.eq_false_or_eq_true (r35) with hg19 | hg19
                          · rw [if_t hg19] at h
                            rcases Bool.eq_false_or_eq_true (r10.2 == r33.2) with hg20 | hg20
                            · rw [if_t hg20] at h
                              refine Wp.regionT hU (f7_ci_ok _) (by simp (decide := true) (disch := (first | omega | (simp only [List.length_append, List.length_map, List.length_cons, List.length_nil]; omega))) only [evOp, putTm, ↓reduceIte, jj_0, jj_set, jj_get, jj_getD, E_T, E_gl, E_br, tdesc, reduceCtorEq, Nat.reduceAdd, Nat.reduceSub, Nat.reduceLT, Nat.reduceLeDiff, Nat.reduceEqDiff, bxm, tabs, evLoad, ldV, ofCells, TD.isAgg, evCall, mapO, importL, import2L, import1, import2, share, fresh1, freshL, evBin, intBin, strBin, bothNil, constOp, eqCells, hr35c, slice_take, hp8a, hp8b, hp8c, hp8d, hr14c, hr15c, hr12c, hr13c, hr5c, hr14c, hr15c, hr13p, hc2, hg11, hg12, hc16, hg17, hg18, hg19, hg20, tys]; rfl) (by kernel_rfl) ?_
                              obtain rfl := Option.some.inj h
                              refine ⟨rfl, ?_⟩
                              refine Wk.weak hU [] _ (by decide) ?_ ?_
                              · exact .nil
                              · (repeat' (first | exact WVs.nil | (refine WVs.jjT (by simp only [jj_length, List.length_cons, List.length_nil, Nat.reduceAdd, Nat.reduceLeDiff]) ?_; try simp (decide := true) only [jj_0, jj_drop, List.drop_succ_cons, List.drop_zero, List.drop_nil, Nat.reduceSub, Nat.reduceLeDiff, ↓reduceIte]) | refine WVs.cons ?_ ?_ | (refine WVs.aggW ?_) | (refine WVs.fnW ?_ ?_))) <;> (first | exact WV.junk _ | exact WV.keep rfl | exact WV.row rfl | exact WV.nil rfl | exact WV.nilsl | exact WV.emp rfl | exact WV.empsl | exact WV.ptr rfl | (refine WV.row_eq rfl ?_; simp only [bxw, ha7b, hp8f, tys]) | (refine WV.view (k := 3) ?_; simp (decide := true) only [reify, share, fresh1, reduceIte, reduceCtorEq, Nat.reduceAdd, bxm, hp8e, tys, slice_take, Int.toNat_zero, List.drop_zero, true_and, and_true, hp8c, hp8d]) | (refine WV.eq ?_ rfl; simp only [bxw, ha7b, hp8e, tys]))
                            · rw [if_f hg20] at h
                              refine Wp.regionT hU (f7_ci_ok _) (by simp (decide := true) (disch := (first | omega | (simp only [List.length_append, List.length_map, List.length_cons, List.length_nil]; omega))) only [evOp, putTm, ↓reduceIte, jj_0, jj_set, jj_get, jj_getD, E_T, E_gl, E_br, tdesc, reduceCtorEq, Nat.reduceAdd, Nat.reduceSub, Nat.reduceLT, Nat.reduceLeDiff, Nat.reduceEqDiff, bxm, tabs, evLoad, ldV, ofCells, TD.isAgg, evCall, mapO, importL, import2L, import1, import2, share, fresh1, freshL, evBin, intBin, strBin, bothNil, constOp, eqCells, hr35c, slice_take, hp8a, hp8b, hp8c, hp8d, hr14c, hr15c, hr12c, hr13c, hr13p, hc2, hg11, hg12, hc16, hg17, hg18, hg19, hg20, tys]; rfl) (by kernel_rfl) ?_
                              obtain rfl := Option.some.inj h
                              refine ⟨rfl, ?_⟩
                              refine Wk.weak hU [] _ (by decide) ?_ ?_
                              · exact .nil
                              · (repeat' (first | exact WVs.nil | (refine WVs.jjT (by simp only [jj_length, List.length_cons, List.length_nil, Nat.reduceAdd, Nat.reduceLeDiff]) ?_; try simp (decide := true) only [jj_0, jj_drop, List.drop_succ_cons, List.drop_zero, List.drop_nil, Nat.reduceSub, Nat.reduceLeDiff, ↓reduceIte]) | refine WVs.cons ?_ ?_ | (refine WVs.aggW ?_) | (refine WVs.fnW ?_ ?_))) <;> (first | exact WV.junk _ | exact WV.keep rfl | exact WV.row rfl | exact WV.nil rfl | exact WV.nilsl | exact WV.emp rfl | exact WV.empsl | exact WV.ptr rfl | (refine WV.row_eq rfl ?_; simp only [bxw, ha7b, hp8f, tys]) | (refine WV.view (k := 3) ?_; simp (decide := true) only [reify, share, fresh1, reduceIte, reduceCtorEq, Nat.reduceAdd, bxm, hp8e, tys, slice_take, Int.toNat_zero, List.drop_zero, true_and, and_true, hp8c, hp8d]) | (refine WV.eq ?_ rfl; simp only [bxw, ha7b, hp8e, tys]))
                          · rw [if_f hg19] at h
                            refine Wp.regionT hU (f7_ci_ok _) (by simp (decide := true) (disch := (first | omega | (simp only [List.length_append, List.length_map, List.length_cons, List.length_nil]; omega))) only [evOp, putTm, ↓reduceIte, jj_0, jj_set, jj_get, jj_getD, E_T, E_gl, E_br, tdesc, reduceCtorEq, Nat.reduceAdd, Nat.reduceSub, Nat.reduceLT, Nat.reduceLeDiff, Nat.reduceEqDiff, bxm, tabs, evLoad, ldV, ofCells, TD.isAgg, evCall, mapO, importL, import2L, import1, import2, share, fresh1, freshL, evBin, intBin, strBin, bothNil, constOp, eqCells, hr35c, slice_take, hp8a, hp8b, hp8c, hp8d, hr14c, hr15c, hr12c, hr13c, hr13p, hc2, hg11, hg12, hc16, hg17, hg18, hg19, tys]; rfl) (by kernel_rfl) ?_
                            obtain rfl := Option.some.inj h
                            refine ⟨rfl, ?_⟩
                            refine Wk.weak hU [] _ (by decide) ?_ ?_
                            · exact .nil
                            · (repeat' (first | exact WVs.nil | (refine WVs.jjT (by simp only [jj_length, List.length_cons, List.length_nil, Nat.reduceAdd, Nat.reduceLeDiff]) ?_; try simp (decide := true) only [jj_0, jj_drop, List.drop_succ_cons, List.drop_zero, List.drop_nil, Nat.reduceSub, Nat.reduceLeDiff, ↓reduceIte]) | refine WVs.cons ?_ ?_ | (refine WVs.aggW ?_) | (refine WVs.fnW ?_ ?_))) <;> (first | exact WV.junk _ | exact WV.keep rfl | exact WV.row rfl | exact WV.nil rfl | exact WV.nilsl | exact WV.emp rfl | exact WV.empsl | exact WV.ptr rfl | (refine WV.row_eq rfl ?_; simp only [bxw, ha7b, hp8f, tys]) | (refine WV.view (k := 3) ?_; simp (decide := true) only [reify, share, fresh1, reduceIte, reduceCtorEq, Nat.reduceAdd, bxm, hp8e, tys, slice_take, Int.toNat_zero, List.drop_zero, true_and, and_true, hp8c, hp8d]) | (refine WV.eq ?_ rfl; simp only [bxw, ha7b, hp8e, tys]))
                        · rw [if_f hg18] at h
                          refine Wp.regionT hU (f7_ci_ok _) (by simp (decide := true) (disch := (first | omega | (simp only [List.length_append, List.length_map, List.length_cons, List.length_nil]; omega))) only [evOp, putTm, ↓reduceIte, jj_0, jj_set, jj_get, jj_getD, E_T, E_gl, E_br, tdesc, reduceCtorEq, Nat.reduceAdd, Nat.reduceSub, Nat.reduceLT, Nat.reduceLeDiff, Nat.reduceEqDiff, bxm, tabs, evLoad, ldV, ofCells, TD.isAgg, evCall, mapO, importL, import2L, import1, import2, share, fresh1, freshL, evBin, intBin, strBin, bothNil, constOp, eqCells, slice_take, hp8a, hp8b, hp8c, hp8d, hr14c, hr15c, hr12c, hr13c, hr13p, hc2, hg11, hg12, hc16, hg17, hg18, tys]; rfl) (by kernel_rfl) ?_
                          obtain rfl := Option.some.inj h
                          refine ⟨rfl, ?_⟩
                          refine Wk.weak hU [] _ (by decide) ?_ ?_
                          · exact .nil
                          · (repeat' (first | exact WVs.nil | (refine WVs.jjT (by simp only [jj_length, List.length_cons, List.length_nil, Nat.reduceAdd, Nat.reduceLeDiff]) ?_; try simp (decide := true) only [jj_0, jj_drop, List.drop_succ_cons, List.drop_zero, List.drop_nil, Nat.reduceSub, Nat.reduceLeDiff, ↓reduceIte]) | refine WVs.cons ?_ ?_ | (refine WVs.aggW ?_) | (refine WVs.fnW ?_ ?_))) <;> (first | exact WV.junk _ | exact WV.keep rfl | exact WV.row rfl | exact WV.nil rfl | exact WV.nilsl | exact WV.emp rfl | exact WV.empsl | exact WV.ptr rfl | (refine WV.row_eq rfl ?_; simp only [bxw, ha7b, hp8f, tys]) | (refine WV.view (k := 3) ?_; simp (decide := true) only [reify, share, fresh1, reduceIte, reduceCtorEq, Nat.reduceAdd, bxm, hp8e, tys, slice_take, Int.toNat_zero, List.drop_zero, true_and, and_true, hp8c, hp8d]) | (refine WV.eq ?_ rfl; simp only [bxw, ha7b, hp8e, tys]))
                      · rw [if_f hg17] at h
                        refine Wp.regionT hU (f7_ci_ok _) (by simp (decide := true) (disch := (first | omega | (simp only [List.length_append, List.length_map, List.length_cons, List.length_nil]; omega))) only [evOp, putTm, ↓reduceIte, jj_0, jj_set, jj_get, jj_getD, E_T, E_gl, E_br, tdesc, reduceCtorEq, Nat.reduceAdd, Nat.reduceSub, Nat.reduceLT, Nat.reduceLeDiff, Nat.reduceEqDiff, bxm, tabs, evLoad, ldV, ofCells, TD.isAgg, evCall, mapO, importL, import2L, import1, import2, share, fresh1, freshL, evBin, intBin, strBin, bothNil, constOp, eqCells, slice_take, hp8a, hp8b, hp8c, hp8d, hr14c, hr15c, hc2, hg11, hg12, hc16, hg17, tys]; rfl) (by kernel_rfl) ?_
                        obtain rfl := Option.some.inj h
                        refine ⟨rfl, ?_⟩
                        refine Wk.weak hU [] _ (by decide) ?_ ?_
                        · exact .nil
                        · (repeat' (first | exact WVs.nil | (refine WVs.jjT (by simp only [jj_length, List.length_cons, List.length_nil, Nat.reduceAdd, Nat.reduceLeDiff]) ?_; try simp (decide := true) only [jj_0, jj_drop, List.drop_succ_cons, List.drop_zero, List.drop_nil, Nat.reduceSub, Nat.reduceLeDiff, ↓reduceIte]) | refine WVs.cons ?_ ?_ | (refine WVs.aggW ?_) | (refine WVs.fnW ?_ ?_))) <;> (first | exact WV.junk _ | exact WV.keep rfl | exact WV.row rfl | exact WV.nil rfl | exact WV.nilsl | exact WV.emp rfl | exact WV.empsl | exact WV.ptr rfl | (refine WV.row_eq rfl ?_; simp only [bxw, ha7b, hp8f, tys]) | (refine WV.view (k := 3) ?_; simp (decide := true) only [reify, share, fresh1, reduceIte, reduceCtorEq, Nat.reduceAdd, bxm, hp8e, tys, slice_take, Int.toNat_zero, List.drop_zero, true_and, and_true, hp8c, hp8d]) | (refine WV.eq ?_ rfl; simp only [bxw, ha7b, hp8e, tys]))
                    · obtain ⟨rfl, hp⟩ := hp
                      refine thenN (hp.wp ?_)
                      refine Wp.ret ?_
                      obtain rfl := Option.some.inj h
                      refine ⟨.inl rfl, ?_⟩
                      refine Rt.of ?_
                      simp (decide := true) only [↓reduceIte, jj_0, jj_set, jj_get, jj_getD, evReturn, retShare, evReturn0, resAV, evLoad, ofCells, TD.isAgg, mapO, exportVs, exportV, exportL, export1, rowsOf, rowOf, innerIds, rowIds, one, closed, share, fresh1, E_T, reduceIte, reduceCtorEq, Nat.reduceAdd, Nat.reduceSub, Nat.reduceLT, Nat.reduceLeDiff, Nat.reduceEqDiff, bxm, tabs, List.map_append, f7_res, f7_rt, tys, ha7b, hp8e]

noncomputable def f7_tbl : CI := tbl 7 (fun p : (List Frame) × (List Frame) => [.sl (List.map cFrame p.1), .sl (List.map cFrame p.2)]) (fun p => (f7 p.1 p.2).map fun r => .v (.bool r))
theorem f7_tbl_ok {base : Nat} : CIOK E base f7_tbl := tbl_ok fun p r h => by obtain ⟨q, hq, rfl⟩ := Option.map_eq_some_iff.1 h; exact f7_ok p.1 p.2 q hq
theorem f7_call {from_ : List Frame} {to : List Frame} {r : Bool} (h : f7 from_ to = some r) (σ : Store) : f7_tbl 7 [.sl (List.map cFrame from_), .sl (List.map cFrame to)] σ = some (.v (.bool r), σ, none) :=
  tbl_eq (x := (from_, to)) (fun x y e => by
    obtain ⟨x0, x1⟩ := x; obtain ⟨y0, y1⟩ := y
    have e0 := av_sl injFrame (List.cons.inj e).1
    have e1 := av_sl injFrame (List.cons.inj (List.cons.inj e).2).1
    subst e0 e1; rfl) (by simp [h]) σ
end Go.Bx.Wind

/- Layer 15: contexts and ways that are handed in stay: the law answers true, in plain Lean. (Own text.) -/
namespace Go.Bx.Wind
set_option linter.unusedVariables false
set_option linter.unusedSimpArgs false
set_option linter.unusedSectionVars false
open WindW (lcp lcp_nil_r lcp_le)
set_option linter.unusedVariables false
set_option linter.unusedSimpArgs false

theorem f7_l0_eq (r : Trip) (hl : r.Out.length ≤ 140737488355328) : ∀ (k i : Nat) (l : List Int), i + k = r.Out.length → l.length = r.Out.length → ∃ o, f7_l0 r l i = some o ∧ o.length = r.Out.length
  | 0, i, l, hk, h => ⟨l, by rw [f7_l0, if_neg (by simp; omega)], h⟩
  | k + 1, i, l, hk, h => by
    obtain ⟨o, h1, h2⟩ := f7_l0_eq r hl k (i + 1) (setL l i (-1)) (by omega) (by rw [setL_len]; exact h)
    refine ⟨o, ?_, h2⟩
    rw [f7_l0, if_pos (by simp; omega), rd_nat (by omega : i < l.length)]
    simp only [bind_ok]
    rw [w64 (by omega) (by omega)]
    exact h1
theorem f7_l1_eq (r : Trip) (hl : r.In.length ≤ 140737488355328) : ∀ (k i : Nat) (l : List Int), i + k = r.In.length → l.length = r.In.length → ∃ o, f7_l1 r l i = some o ∧ o.length = r.In.length
  | 0, i, l, hk, h => ⟨l, by rw [f7_l1, if_neg (by simp; omega)], h⟩
  | k + 1, i, l, hk, h => by
    obtain ⟨o, h1, h2⟩ := f7_l1_eq r hl k (i + 1) (setL l i (-2)) (by omega) (by rw [setL_len]; exact h)
    refine ⟨o, ?_, h2⟩
    rw [f7_l1, if_pos (by simp; omega), rd_nat (by omega : i < l.length)]
    simp only [bind_ok]
    rw [w64 (by omega) (by omega)]
    exact h1
theorem f7_l2_eq : ∀ (k i : Nat) (l m : List Int), i + k = 20 → (l.length + k) * 8 ≤ 140737488355328 → (m.length + k) * 8 ≤ 140737488355328 → f7_l2 l m i = some ()
  | 0, i, l, m, hk, h1, h2 => by rw [f7_l2, if_neg (by simp; omega)]
  | k + 1, i, l, m, hk, h1, h2 => by
    rw [f7_l2, if_pos (by simp; omega), ap_of (by simp; omega), bind_ok, ap_of (by simp; omega), bind_ok, w64 (by omega) (by omega)]
    exact f7_l2_eq k (i + 1) _ _ (by omega) (by simp; omega) (by simp; omega)
theorem f7_l3_eq (r : List Int × Int) (hl : r.1.length ≤ 140737488355328) : ∀ (k i : Nat) (l : List Int), i + k = r.1.length → l.length = r.1.length → f7_l3 r l i = some ()
  | 0, i, l, hk, h => by rw [f7_l3, if_neg (by simp; omega)]
  | k + 1, i, l, hk, h => by
    rw [f7_l3, if_pos (by simp; omega), rd_nat (by omega : i < l.length)]
    simp only [bind_ok]
    rw [w64 (by omega) (by omega)]
    exact f7_l3_eq r hl k (i + 1) _ (by omega) (by rw [setL_len]; exact h)
theorem f7_l4_eq (r : List Int × Int) (hl : r.1.length ≤ 140737488355328) : ∀ (k i : Nat) (l : List Int), i + k = r.1.length → l.length = r.1.length → f7_l4 r l i = some ()
  | 0, i, l, hk, h => by rw [f7_l4, if_neg (by simp; omega)]
  | k + 1, i, l, hk, h => by
    rw [f7_l4, if_pos (by simp; omega), rd_nat (by omega : i < l.length)]
    simp only [bind_ok]
    rw [w64 (by omega) (by omega)]
    exact f7_l4_eq r hl k (i + 1) _ (by omega) (by rw [setL_len]; exact h)

theorem f7_eq (a b : List Frame) (ha : FsOK a) (hb : FsOK b) : f7 a b = some true := by
  unfold f7
  have h1 := winds_len a
  have h2 := winds_len b
  have ha1 := ha.1
  have hb1 := hb.1
  obtain ⟨h3, h4⟩ := lcp_le (windsOf a) (windsOf b)
  have h5 := nearFrom_len a ha.2 a.length
  have hr : ∀ o, ride (windsOf a) (planOf a b).Out = some o → (o.length : Int) = (planOf a b).Common → (o.length + (planOf a b).In.length) * 8 ≤ 140737488355328 := fun o h hc => by
    simp only [planOf] at hc ⊢
    simp only [List.length_drop]
    omega
  have ho : (planOf a b).Out.length * 40 ≤ 140737488355328 := by simp [planOf]; omega
  have hi : (planOf a b).In.length * 40 ≤ 140737488355328 := by simp [planOf]; omega
  have hlen : ((windsOf a ++ [77]).length : Int) - 1 = (windsOf a).length := by simp
  have hw : IntKind.i64.wrap (((windsOf a ++ [77]).length : Int) - 1) = ((windsOf a).length : Int) := by rw [hlen]; exact w64 (by omega) (by omega)
  have hcut : cutL (windsOf a ++ [77]) 0 ((windsOf a).length : Int) = some (windsOf a) := by simp [cutL]
  have hrd : rd (windsOf a ++ [77]) ((windsOf a).length : Int) = some 77 := rd_of (by simp)
  rw [f8_eq, bind_ok, if_neg (by decide), f11_eq a ha.1 ha.2, bind_ok, f11_eq b hb.1 hb.2, bind_ok, f16_eq a b ha.1 hb.1, bind_ok, f10_eq a ha.1, bind_ok, ap_of (by simp; omega), bind_ok, hw, hcut, bind_ok,
    f18_eq _ _ (by omega) (by omega) hr, bind_ok, rideOf_plan, show f20 a = some (nearFrom a a.length) from if_pos ha, bind_ok, hrd, bind_ok, if_neg (by decide), f12_eq a ha.1, bind_ok, f9_eq _ _ (by omega)]
  simp only [decide_true, bind_ok, Bool.not_true, Bool.false_eq_true, if_false]
  rw [f17_eq a b ha.1 hb.1, bind_ok, f15_eq _ _ (by omega) (by omega)]
  simp only [decide_true, bind_ok, Bool.not_true, Bool.false_eq_true, if_false, if_true]
  obtain ⟨o1, e1, l1⟩ := f7_l0_eq (planOf a b) (by omega) (planOf a b).Out.length 0 (planOf a b).Out (by omega) rfl
  obtain ⟨o2, e2, l2⟩ := f7_l1_eq (planOf a b) (by omega) (planOf a b).In.length 0 (planOf a b).In (by omega) rfl
  have e3 := f7_l2_eq 20 0 o1 o2 rfl (by omega) (by omega)
  have e4 := f7_l3_eq (windsOf b, 0) (by simp; omega) (windsOf b).length 0 (windsOf b) (by simp) rfl
  have e5 := f7_l4_eq (nearFrom a a.length) (by omega) (nearFrom a a.length).1.length 0 (nearFrom a a.length).1 (by simp) rfl
  rw [show ((0 : Nat) : Int) = 0 from rfl] at e1 e2 e3 e4 e5
  rw [e1, bind_ok, e2, bind_ok, e3, bind_ok, e4, bind_ok, e5, bind_ok, f21_eq a ha.1, bind_ok, f9_eq _ _ (by omega)]
  simp only [decide_true, bind_ok, if_true, beq_self_eq_true]
end Go.Bx.Wind
