/- What the program's functions compute, shown of their code (Wd). Own text; parts are printed by a program of this claim's author. -/
import Derived.Test.YtgnhnfaojpjieaaWb
import Derived.Test.YtgnhnfaojpjieaaWc
import Derived.Test.YtgnhnfaojpjieaaShelf
/- sibyl/ratio.natDigits, printed by pf.py. (Own text.) -/
namespace Go.Bx.Scan
set_option linter.unusedVariables false
set_option linter.unusedSimpArgs false
set_option linter.unusedSectionVars false
open Go.Proofs
set_option linter.unusedSimpArgs false
set_option linter.unusedVariables false
set_option maxRecDepth 10000
def f54_l0 (s : Str) (out : List Int) (i : Int) : Option ((List Int) × Int) :=
  if (decide (i < (s.length : Int))) = true then
    (bt s i >>= fun b2 =>
    f53 b2 >>= fun r3 =>
    if (r3 == 2) = true then
      ((bt s i >>= fun b6 =>
      if (decide ((IntKind.u8.wrap (b6 - 48)) > 0)) = true then
        (f61 out (IntKind.u32.wrap (IntKind.u8.wrap (b6 - 48))) >>= fun r7 =>
        some r7)
      else
        if (decide ((out.length : Int) > 0)) = true then
          (f61 out (IntKind.u32.wrap (IntKind.u8.wrap (b6 - 48))) >>= fun r8 =>
          some r8)
        else
          some out : Option ((List Int))) >>= fun o5 =>
      f54_l0 s o5 (IntKind.i64.wrap (i + 1)))
    else
      some (out, i))
  else
    some (out, i)
  partial_fixpoint

/-- sibyl/ratio.natDigits -/
def f54 (s : Str) (at_ : Int) : Option ((List Int) × Int × Bool) :=
  f54_l0 s [] at_ >>= fun o1 =>
  some (o1.1, o1.2, decide (o1.2 > at_))

noncomputable def f54_ci : CI := (CI.or 53 f53_tbl (fun _ _ _ => none))
theorem f54_ci_ok (base : Nat) : CIOK E base f54_ci := (or_ok f53_tbl_ok no_ok)
theorem f54_res : Try.f54.results = #[.tmp 4, .tmp 5, .tmp 6] := rfl
theorem f54_rt : Try.f54.resultTypes = #[36, 3, 4] := rfl

set_option maxHeartbeats 4000000 in
theorem f54_l0_ok {base : Nat} {c00 : Ctx} (s : Str) (at_ : Int) (hU : Under E base c00 nilStore) : ∀ (out : List Int) (i : Int) (o1 : (List Int) × Int), f54_l0 s out i = some o1 →
    WpL E base c00 nilStore (lb Try.f54 0) ⟨.v (.string (mkS s)) :: .v (.int .i64 at_) :: jj 5 (.row 0 1 0 ((out).length) :: .v (.int .i64 i) :: jj 35 []), St [some ⟨1, false, true, List.map (cInt .u32) out⟩], none, 0⟩ (fun ex s1 => ex = .exit 0 ∧ Wk base c00 nilStore s1 ⟨jj 1 (.v (.int .i64 at_) :: jj 5 (.row 0 1 0 ((o1.1).length) :: .v (.int .i64 o1.2) :: jj 35 [])), St [some ⟨1, false, true, List.map (cInt .u32) o1.1⟩], none, 0⟩) := by
  refine f54_l0.partial_correctness s _ ?_
  intro lp__ ih out i o1 h
  refine WpL.stepE (by simp only [Try.f54, lb, Option.getD_some, loopsOf, List.nil_append, List.append_nil, List.cons_append, List.getElem?_cons_zero, List.getElem?_cons_succ] <;> rfl) ?_
  refine Wp.seq <| Wp.seq <| ?_
  rcases Bool.eq_false_or_eq_true (decide (i < (s.length : Int))) with hg76 | hg76
  · rw [if_t hg76] at h
    obtain ⟨b2, hb2, h⟩ := bind_some h
    obtain ⟨r3, hr3, h⟩ := bind_some h
    have hr3c : ∀ σ, f54_ci 53 [.v (.int .u8 b2)] σ = some (.v (.int .i64 r3), σ, none) := fun σ => f53_call hr3 σ
    have fx := i3 hb2 hr3c hg76
    refine Wp.region hU (f54_ci_ok _) rgIF <| thenN <| ?_
    refine Wp.cond hU (t := r3 == 2) rfl (fun hc4 => ?_) (fun hc4 => ?_)
    · rw [if_t hc4] at h
      refine Wp.skip <| thenN <| ?_
      obtain ⟨o5, ho5, h⟩ := bind_some h
      refine Wp.seq1 (JP := (fun ex s1 => ex = .nrm ∧ Wk base c00 nilStore s1 ⟨.v (.string (mkS s)) :: .v (.int .i64 at_) :: jj 5 (.row 0 1 0 ((o5).length) :: .v (.int .i64 i) :: jj 35 []), St [some ⟨1, false, true, List.map (cInt .u32) o5⟩], none, 0⟩)) ?_ (fun ex s1 hp => ?_)
      · replace h := ho5
        refine Wp.block <| Wp.seq <| ?_
        obtain ⟨b6, hb6, h⟩ := bind_some h
        have fx := i3 hb6 hg76 hc4
        refine Wp.region hU (f54_ci_ok _) rgIF <| thenN <| Wp.seq <| ?_
        rcases Bool.eq_false_or_eq_true (decide ((IntKind.u8.wrap (b6 - 48)) > 0)) with hg80 | hg80
        · rw [if_t hg80] at h
          have fx := i3 hg76 hc4 hg80
          refine Wp.region hU (f54_ci_ok _) rgIF <| thenN <| ?_
          refine Wp.cond hU (t := true) rfl (fun _ => ?_) (fun hc => by cases hc)
          obtain ⟨r7, hr7, h⟩ := bind_some h
          have hr7c : CallOK E base 61 [.row 0 1 0 ((out).length), .v (.int .u32 (IntKind.u32.wrap (IntKind.u8.wrap (b6 - 48))))] (St [some ⟨1, false, true, List.map (cInt .u32) out⟩]) (.row 1 1 0 ((r7).length)) (St [none, some ⟨1, false, true, List.map (cInt .u32) r7⟩]) (some 0) := (f61_ok out (IntKind.u32.wrap (IntKind.u8.wrap (b6 - 48))) r7 hr7).at [0] 0 rfl ⟨rfl, trivial⟩ rfl rfl rfl
          refine Wp.region hU (rone_ok hr7c (f54_ci_ok _)) rgIF <| blkN <| ?_
          obtain rfl := Option.some.inj h
          refine ⟨rfl, ?_⟩
          refine Wk.weak hU [some 1] _ (by decide) ?_ ?_
          · refine .obj rfl ?_ ?_
            · exact woI
            exact .nil
          · exact wvI
        · rw [if_f hg80] at h
          have fx := i3 hg76 hc4 hg80
          refine Wp.region hU (f54_ci_ok _) rgIF <| thenN <| ?_
          refine Wp.cond hU (t := decide ((out.length : Int) > 0)) rfl (fun hc7 => ?_) (fun hc7 => ?_)
          · rw [if_t hc7] at h
            obtain ⟨r8, hr8, h⟩ := bind_some h
            have hr8c : CallOK E base 61 [.row 0 1 0 ((out).length), .v (.int .u32 (IntKind.u32.wrap (IntKind.u8.wrap (b6 - 48))))] (St [some ⟨1, false, true, List.map (cInt .u32) out⟩]) (.row 1 1 0 ((r8).length)) (St [none, some ⟨1, false, true, List.map (cInt .u32) r8⟩]) (some 0) := (f61_ok out (IntKind.u32.wrap (IntKind.u8.wrap (b6 - 48))) r8 hr8).at [0] 0 rfl ⟨rfl, trivial⟩ rfl rfl rfl
            have fx := i4 hg76 hc4 hg80 hc7
            refine Wp.region hU (rone_ok hr8c (f54_ci_ok _)) rgIF <| blkN <| ?_
            obtain rfl := Option.some.inj h
            refine ⟨rfl, ?_⟩
            refine Wk.weak hU [some 1] _ (by decide) ?_ ?_
            · refine .obj rfl ?_ ?_
              · exact woI
              exact .nil
            · exact wvI
          · rw [if_f hc7] at h
            refine Wp.skip <| blkN <| ?_
            obtain rfl := Option.some.inj h
            refine ⟨rfl, ?_⟩
            refine Wk.weak hU [some 0] _ (by decide) ?_ ?_
            · refine .obj rfl ?_ ?_
              · exact woI
              exact .nil
            · exact wvI
      · obtain ⟨rfl, hp⟩ := hp
        refine thenN (hp.wp ?_)
        have fx := i2 hg76 hc4
        refine Wp.region hU (f54_ci_ok _) rgIF <| againN <| ?_
        refine Wk.wpL ?_ (ih o5 (IntKind.i64.wrap (i + 1)) _ h)
        refine Wk.weak hU [some 0] _ (by decide) ?_ ?_
        · refine .obj rfl ?_ ?_
          · exact woI
          exact .nil
        · exact wvI
    · rw [if_f hc4] at h
      refine Wp.exit <| thenE <| againE <| ?_
      obtain rfl := Option.some.inj h
      refine ⟨rfl, ?_⟩
      refine Wk.weak hU [some 0] _ (by decide) ?_ ?_
      · refine .obj rfl ?_ ?_
        · exact woI
        exact .nil
      · exact wvI
  · rw [if_f hg76] at h
    have fx := hg76
    refine Wp.region hU (f54_ci_ok _) rgIF <| thenN <| ?_
    refine Wp.cond hU (t := false) rfl (fun hc => by cases hc) (fun _ => ?_)
    refine Wp.exit <| thenE <| againE <| ?_
    obtain rfl := Option.some.inj h
    refine ⟨rfl, ?_⟩
    refine Wk.weak hU [some 0] _ (by decide) ?_ ?_
    · refine .obj rfl ?_ ?_
      · exact woI
      exact .nil
    · exact wvI

set_option maxHeartbeats 4000000 in
theorem f54_ok (s : Str) (at_ : Int) (r : (List Int) × Int × Bool) (h : f54 s at_ = some r) : PureOK E 54 [.v (.string (mkS s)), .v (.int .i64 at_)] (.tup [.own false 1 (List.map (cInt .u32) r.1), .v (.int .i64 r.2.1), .v (.bool r.2.2)]) := by
  unfold f54 at h
  refine pure_of_wp tabOK mixed (fn := Try.f54) (nt := 44) Try.func54 rfl rfl (names _ _ Try.func54) rfl rfl (fun _ => rfl) (fun base c00 hU => ?_)
  refine Wk.wp (s2 := ⟨.v (.string (mkS s)) :: .v (.int .i64 at_) :: jj 42 [], St [], none, 0⟩) ?_ ?_
  · refine Wk.weak hU [] _ (by decide) .nil ?_
    simp only [jjs, List.length_cons, List.length_nil, Nat.reduceAdd, Nat.reduceSub, List.replicate, List.cons_append, List.nil_append]
    repeat' (first | exact WVs.nil | refine WVs.cons ?_ ?_)
    all_goals first | exact WV.junk _ | exact WV.keep rfl | exact .agg rfl (aggKeep rfl)
  refine Wp.seq <| Wp.region hU (f54_ci_ok _) rgI <| thenN <| Wp.seq <| Wp.region hU (f54_ci_ok _) rgI <| thenN <| Wp.seq <| Wp.region hU (f54_ci_ok _) rgI <| thenN <| Wp.seq <| Wp.block <| ?_
  obtain ⟨o1, ho1, h⟩ := bind_some h
  refine Wp.loop <| ?_
  refine Tw.mono (Wk.wpL (s2 := ⟨.v (.string (mkS s)) :: .v (.int .i64 at_) :: jj 5 (.row 0 1 0 (0) :: .v (.int .i64 at_) :: jj 35 []), St [some ⟨1, false, true, List.map (cInt .u32) []⟩], none, 0⟩) ?_ (f54_l0_ok s at_ hU [] at_ o1 ho1)) (fun ex s1 hp => ?_)
  · refine Wk.weak hU [none] _ (by decide) ?_ ?_
    · refine .virt ?_
      exact .nil
    · exact wvI
  · obtain ⟨rfl, hp⟩ := hp
    refine blkE <| thenN <| hp.wp <| Wp.seq <| Wp.region hU (f54_ci_ok _) rgI <| thenN <| Wp.ret <| ?_
    obtain rfl := Option.some.inj h
    refine ⟨.inl rfl, ?_⟩
    refine Rt.of <| ?_
    have fx := i2 f54_res f54_rt
    exact rtI

noncomputable def f54_tbl : CI := tbl 54 (fun p : Str × Int => [.v (.string (mkS p.1)), .v (.int .i64 p.2)]) (fun p => (f54 p.1 p.2).map fun r => .tup [.own false 1 (List.map (cInt .u32) r.1), .v (.int .i64 r.2.1), .v (.bool r.2.2)])
theorem f54_tbl_ok {base : Nat} : CIOK E base f54_tbl := tbl_ok fun p r h => by obtain ⟨q, hq, rfl⟩ := Option.map_eq_some_iff.1 h; exact f54_ok p.1 p.2 q hq
theorem f54_call {s : Str} {at_ : Int} {r : (List Int) × Int × Bool} (h : f54 s at_ = some r) (σ : Store) : f54_tbl 54 [.v (.string (mkS s)), .v (.int .i64 at_)] σ = some (.tup [.own false 1 (List.map (cInt .u32) r.1), .v (.int .i64 r.2.1), .v (.bool r.2.2)], σ, none) :=
  tbl_eq (x := (s, at_)) (fun x y e => by
    obtain ⟨x0, x1⟩ := x; obtain ⟨y0, y1⟩ := y
    have e0 := av_str (List.cons.inj e).1
    have e1 := av_int (List.cons.inj (List.cons.inj e).2).1
    subst e0 e1; rfl) (by simp [h]) σ
end Go.Bx.Scan

/- sibyl/ratio.Make, printed by pf.py. (Own text.) -/
namespace Go.Bx.Scan
set_option linter.unusedVariables false
set_option linter.unusedSimpArgs false
set_option linter.unusedSectionVars false
open Go.Proofs
set_option linter.unusedSimpArgs false
set_option linter.unusedVariables false
set_option maxRecDepth 10000
/-- sibyl/ratio.Make -/
def f55 (neg : Bool) (num : List Int) (den : List Int) : Option (Ratio × Int) :=
  f62 num >>= fun r1 =>
  f62 den >>= fun r2 =>
  if ((r2.length : Int) == 0) = true then
    (some ((⟨false, [], []⟩ : Ratio), 10))
  else
    if ((r1.length : Int) == 0) = true then
      (some ((⟨false, [], [1]⟩ : Ratio), 0))
    else
      f63 r1 r2 >>= fun r5 =>
      f64 r5 >>= fun r6 =>
      if (!r6) = true then
        (f65 r1 r5 >>= fun r8 =>
        f65 r2 r5 >>= fun r9 =>
        if (decide ((r8.1.length : Int) > 16)) = true then
          (some ((⟨false, [], []⟩ : Ratio), 4))
        else
          if (decide ((r9.1.length : Int) > 16)) = true then
            (some ((⟨false, [], []⟩ : Ratio), 4))
          else
            some ((⟨neg, r8.1, r9.1⟩ : Ratio), 0))
      else
        if (decide ((r1.length : Int) > 16)) = true then
          (some ((⟨false, [], []⟩ : Ratio), 4))
        else
          if (decide ((r2.length : Int) > 16)) = true then
            (some ((⟨false, [], []⟩ : Ratio), 4))
          else
            some ((⟨neg, r1, r2⟩ : Ratio), 0)

noncomputable def f55_ci : CI := (CI.or 62 f62_tbl (CI.or 63 f63_tbl (CI.or 64 f64_tbl (CI.or 65 f65_tbl (fun _ _ _ => none)))))
theorem f55_ci_ok (base : Nat) : CIOK E base f55_ci := (or_ok f62_tbl_ok (or_ok f63_tbl_ok (or_ok f64_tbl_ok (or_ok f65_tbl_ok no_ok))))
theorem f55_res : Try.f55.results = #[.cell 6 38, .tmp 7] := rfl
theorem f55_rt : Try.f55.resultTypes = #[38, 24] := rfl

set_option maxHeartbeats 4000000 in
theorem f55_ok (neg : Bool) (num : List Int) (den : List Int) (r : Ratio × Int) (h : f55 neg num den = some r) : PureOK E 55 [.v (.bool neg), .sl (List.map (cInt .u32) num), .sl (List.map (cInt .u32) den)] (.tup [.agg [.v (.bool r.1.Neg), .sl (List.map (cInt .u32) r.1.Num), .sl (List.map (cInt .u32) r.1.Den)], .v (.int .i64 r.2)]) := by
  unfold f55 at h
  refine pure_of_wp tabOK mixed (fn := Try.f55) (nt := 55) Try.func55 rfl rfl (names _ _ Try.func55) rfl rfl (fun _ => rfl) (fun base c00 hU => ?_)
  refine Wk.wp (s2 := ⟨.v (.bool neg) :: .sl (List.map (cInt .u32) num) :: .sl (List.map (cInt .u32) den) :: jj 52 [], St [], none, 0⟩) ?_ ?_
  · refine Wk.weak hU [] _ (by decide) .nil ?_
    simp only [jjs, List.length_cons, List.length_nil, Nat.reduceAdd, Nat.reduceSub, List.replicate, List.cons_append, List.nil_append]
    repeat' (first | exact WVs.nil | refine WVs.cons ?_ ?_)
    all_goals first | exact WV.junk _ | exact WV.keep rfl | exact .agg rfl (aggKeep rfl)
  refine Wp.seq <| Wp.region hU (f55_ci_ok _) rgI <| thenN <| Wp.seq <| ?_
  obtain ⟨r1, hr1, h⟩ := bind_some h
  have hr1c : ∀ σ, f55_ci 62 [.sl (List.map (cInt .u32) num)] σ = some (.own false 1 (List.map (cInt .u32) r1), σ, none) := fun σ => f62_call hr1 σ
  obtain ⟨r2, hr2, h⟩ := bind_some h
  have hr2c : ∀ σ, f55_ci 62 [.sl (List.map (cInt .u32) den)] σ = some (.own false 1 (List.map (cInt .u32) r2), σ, none) := fun σ => f62_call hr2 σ
  have fx := i2 hr1c hr2c
  refine Wp.region hU (f55_ci_ok _) rgIF <| thenN <| Wp.seq <| Wp.seq <| Wp.region hU (f55_ci_ok _) rgI <| thenN <| ?_
  refine Wp.cond hU (t := (r2.length : Int) == 0) rfl (fun hc3 => ?_) (fun hc3 => ?_)
  · rw [if_t hc3] at h
    refine Wp.seq <| ?_
    have fx := hc3
    refine Wp.region hU (f55_ci_ok _) rgIF <| thenN <| Wp.ret <| thenR <| ?_
    obtain rfl := Option.some.inj h
    refine ⟨.inl rfl, ?_⟩
    refine Rt.wk (s2 := ⟨jj 6 (.ptr 0 0 0 :: .v (.int .i64 10) :: jj 47 []), St [some ⟨3, false, false, [[.v (.bool false), .sl (List.map (cInt .u32) []), .sl (List.map (cInt .u32) [])]]⟩], none, 0⟩) ?_ (Rt.of ?_)
    · refine Wk.weak hU [some 0] _ (by decide) ?_ ?_
      · refine .obj rfl ?_ ?_
        · refine .mk ?_ (by simp only [bxm, leaf_ptr, leaf_slf, leaf_trow, leaf_tptr]) nofun
          refine .cons ?_ .nil
          exact wvI
        exact .nil
      · exact wvI
    have fx := i2 f55_res f55_rt
    exact rtI
  · rw [if_f hc3] at h
    refine Wp.skip <| thenN <| Wp.seq <| Wp.seq <| ?_
    have fx := hc3
    refine Wp.region hU (f55_ci_ok _) rgIF <| thenN <| ?_
    refine Wp.cond hU (t := (r1.length : Int) == 0) rfl (fun hc4 => ?_) (fun hc4 => ?_)
    · rw [if_t hc4] at h
      refine Wp.seq <| ?_
      have fx := i2 hc3 hc4
      refine Wp.region hU (f55_ci_ok _) rgIF <| thenN <| Wp.ret <| thenR <| ?_
      obtain rfl := Option.some.inj h
      refine ⟨.inl rfl, ?_⟩
      refine Rt.wk (s2 := ⟨jj 6 (.ptr 0 0 0 :: .v (.int .i64 0) :: jj 47 []), St [some ⟨3, false, false, [[.v (.bool false), .sl (List.map (cInt .u32) []), .sl (List.map (cInt .u32) [1])]]⟩], none, 0⟩) ?_ (Rt.of ?_)
      · refine Wk.share hU [3] ?_
        simp (decide := true) only [share, fresh1, reduceIte, reduceCtorEq, Nat.reduceAdd, bxm]
        refine Wk.weak hU [some 0] _ (by decide) ?_ ?_
        · refine .obj rfl ?_ ?_
          · refine .mk ?_ (by simp only [bxm, leaf_ptr, leaf_slf, leaf_trow, leaf_tptr]) nofun
            refine .cons ?_ .nil
            exact wvI
          exact .nil
        · exact wvI
      have fx := i2 f55_res f55_rt
      exact rtI
    · rw [if_f hc4] at h
      refine Wp.skip <| thenN <| Wp.seq <| Wp.seq <| ?_
      obtain ⟨r5, hr5, h⟩ := bind_some h
      have hr5c : ∀ σ, f55_ci 63 [.sl (List.map (cInt .u32) r1), .sl (List.map (cInt .u32) r2)] σ = some (.own false 1 (List.map (cInt .u32) r5), σ, none) := fun σ => f63_call hr5 σ
      have fx := i3 hr5c hc3 hc4
      refine Wp.region hU (f55_ci_ok _) rgIF <| thenN <| Wp.seq <| ?_
      obtain ⟨r6, hr6, h⟩ := bind_some h
      have hr6c : ∀ σ, f55_ci 64 [.sl (List.map (cInt .u32) r5)] σ = some (.v (.bool r6), σ, none) := fun σ => f64_call hr6 σ
      have fx := i3 hr6c hc3 hc4
      refine Wp.region hU (f55_ci_ok _) rgIF <| thenN <| ?_
      refine Wp.cond hU (t := !r6) rfl (fun hc7 => ?_) (fun hc7 => ?_)
      · rw [if_t hc7] at h
        refine Wp.seq <| ?_
        obtain ⟨r8, hr8, h⟩ := bind_some h
        have hr8c : ∀ σ, f55_ci 65 [.sl (List.map (cInt .u32) r1), .sl (List.map (cInt .u32) r5)] σ = some (.tup [.sl (List.map (cInt .u32) r8.1), .sl (List.map (cInt .u32) r8.2)], σ, none) := fun σ => f65_call hr8 σ
        have fx := i4 hr8c hc3 hc4 hc7
        refine Wp.region hU (f55_ci_ok _) rgIF <| thenN <| ?_
        obtain ⟨r9, hr9, h⟩ := bind_some h
        have hr9c : ∀ σ, f55_ci 65 [.sl (List.map (cInt .u32) r2), .sl (List.map (cInt .u32) r5)] σ = some (.tup [.sl (List.map (cInt .u32) r9.1), .sl (List.map (cInt .u32) r9.2)], σ, none) := fun σ => f65_call hr9 σ
        have fx := i4 hr9c hc3 hc4 hc7
        refine Wp.region hU (f55_ci_ok _) rgIF <| thenN <| Wp.seq <| Wp.seq <| ?_
        rcases Bool.eq_false_or_eq_true (decide ((r8.1.length : Int) > 16)) with hg12 | hg12
        · rw [if_t hg12] at h
          have fx := i4 hc3 hc4 hc7 hg12
          refine Wp.region hU (f55_ci_ok _) rgIF <| thenN <| ?_
          refine Wp.cond hU (t := true) rfl (fun _ => ?_) (fun hc => by cases hc)
          refine Wp.seq <| Wp.region hU (f55_ci_ok _) rgIF <| thenN <| Wp.ret <| thenR <| ?_
          obtain rfl := Option.some.inj h
          refine ⟨.inl rfl, ?_⟩
          refine Rt.wk (s2 := ⟨jj 6 (.ptr 0 0 0 :: .v (.int .i64 4) :: jj 47 []), St [some ⟨3, false, false, [[.v (.bool false), .sl (List.map (cInt .u32) []), .sl (List.map (cInt .u32) [])]]⟩], none, 0⟩) ?_ (Rt.of ?_)
          · refine Wk.weak hU [some 0] _ (by decide) ?_ ?_
            · refine .obj rfl ?_ ?_
              · refine .mk ?_ (by simp only [bxm, leaf_ptr, leaf_slf, leaf_trow, leaf_tptr]) nofun
                refine .cons ?_ .nil
                exact wvI
              exact .nil
            · exact wvI
          have fx := i2 f55_res f55_rt
          exact rtI
        · rw [if_f hg12] at h
          have fx := i4 hc3 hc4 hc7 hg12
          refine Wp.region hU (f55_ci_ok _) rgIF <| thenN <| ?_
          refine Wp.cond hU (t := decide ((r9.1.length : Int) > 16)) rfl (fun hc10 => ?_) (fun hc10 => ?_)
          · rw [if_t hc10] at h
            refine Wp.seq <| ?_
            have fx := i5 hc3 hc4 hc7 hg12 hc10
            refine Wp.region hU (f55_ci_ok _) rgIF <| thenN <| Wp.ret <| thenR <| ?_
            obtain rfl := Option.some.inj h
            refine ⟨.inl rfl, ?_⟩
            refine Rt.wk (s2 := ⟨jj 6 (.ptr 0 0 0 :: .v (.int .i64 4) :: jj 47 []), St [some ⟨3, false, false, [[.v (.bool false), .sl (List.map (cInt .u32) []), .sl (List.map (cInt .u32) [])]]⟩], none, 0⟩) ?_ (Rt.of ?_)
            · refine Wk.weak hU [some 0] _ (by decide) ?_ ?_
              · refine .obj rfl ?_ ?_
                · refine .mk ?_ (by simp only [bxm, leaf_ptr, leaf_slf, leaf_trow, leaf_tptr]) nofun
                  refine .cons ?_ .nil
                  exact wvI
                exact .nil
              · exact wvI
            have fx := i2 f55_res f55_rt
            exact rtI
          · rw [if_f hc10] at h
            refine Wp.skip <| thenN <| Wp.seq <| ?_
            have fx := i5 hc3 hc4 hc7 hg12 hc10
            refine Wp.region hU (f55_ci_ok _) rgIF <| thenN <| Wp.ret <| ?_
            obtain rfl := Option.some.inj h
            refine ⟨.inl rfl, ?_⟩
            refine Rt.of <| ?_
            have fx := i2 f55_res f55_rt
            exact rtI
      · rw [if_f hc7] at h
        refine Wp.skip <| thenN <| Wp.seq <| Wp.seq <| ?_
        rcases Bool.eq_false_or_eq_true (decide ((r1.length : Int) > 16)) with hg16 | hg16
        · rw [if_t hg16] at h
          have fx := i4 hc3 hc4 hc7 hg16
          refine Wp.region hU (f55_ci_ok _) rgIF <| thenN <| ?_
          refine Wp.cond hU (t := true) rfl (fun _ => ?_) (fun hc => by cases hc)
          refine Wp.seq <| Wp.region hU (f55_ci_ok _) rgIF <| thenN <| Wp.ret <| thenR <| ?_
          obtain rfl := Option.some.inj h
          refine ⟨.inl rfl, ?_⟩
          refine Rt.wk (s2 := ⟨jj 6 (.ptr 0 0 0 :: .v (.int .i64 4) :: jj 47 []), St [some ⟨3, false, false, [[.v (.bool false), .sl (List.map (cInt .u32) []), .sl (List.map (cInt .u32) [])]]⟩], none, 0⟩) ?_ (Rt.of ?_)
          · refine Wk.weak hU [some 0] _ (by decide) ?_ ?_
            · refine .obj rfl ?_ ?_
              · refine .mk ?_ (by simp only [bxm, leaf_ptr, leaf_slf, leaf_trow, leaf_tptr]) nofun
                refine .cons ?_ .nil
                exact wvI
              exact .nil
            · exact wvI
          have fx := i2 f55_res f55_rt
          exact rtI
        · rw [if_f hg16] at h
          have fx := i4 hc3 hc4 hc7 hg16
          refine Wp.region hU (f55_ci_ok _) rgIF <| thenN <| ?_
          refine Wp.cond hU (t := decide ((r2.length : Int) > 16)) rfl (fun hc11 => ?_) (fun hc11 => ?_)
          · rw [if_t hc11] at h
            refine Wp.seq <| ?_
            have fx := i5 hc3 hc4 hc7 hg16 hc11
            refine Wp.region hU (f55_ci_ok _) rgIF <| thenN <| Wp.ret <| thenR <| ?_
            obtain rfl := Option.some.inj h
            refine ⟨.inl rfl, ?_⟩
            refine Rt.wk (s2 := ⟨jj 6 (.ptr 0 0 0 :: .v (.int .i64 4) :: jj 47 []), St [some ⟨3, false, false, [[.v (.bool false), .sl (List.map (cInt .u32) []), .sl (List.map (cInt .u32) [])]]⟩], none, 0⟩) ?_ (Rt.of ?_)
            · refine Wk.weak hU [some 0] _ (by decide) ?_ ?_
              · refine .obj rfl ?_ ?_
                · refine .mk ?_ (by simp only [bxm, leaf_ptr, leaf_slf, leaf_trow, leaf_tptr]) nofun
                  refine .cons ?_ .nil
                  exact wvI
                exact .nil
              · exact wvI
            have fx := i2 f55_res f55_rt
            exact rtI
          · rw [if_f hc11] at h
            refine Wp.skip <| thenN <| Wp.seq <| ?_
            have fx := i5 hc3 hc4 hc7 hg16 hc11
            refine Wp.region hU (f55_ci_ok _) rgIF <| thenN <| Wp.ret <| ?_
            obtain rfl := Option.some.inj h
            refine ⟨.inl rfl, ?_⟩
            refine Rt.wk (s2 := ⟨jj 6 (.ptr 0 0 0 :: .v (.int .i64 0) :: jj 47 []), St [some ⟨3, false, false, [[.v (.bool neg), .sl (List.map (cInt .u32) r1), .sl (List.map (cInt .u32) r2)]]⟩], none, 0⟩) ?_ (Rt.of ?_)
            · refine Wk.share hU [1, 2] ?_
              simp (decide := true) only [share, fresh1, reduceIte, reduceCtorEq, Nat.reduceAdd, bxm]
              refine Wk.weak hU [some 0] _ (by decide) ?_ ?_
              · refine .obj rfl ?_ ?_
                · refine .mk ?_ (by simp only [bxm, leaf_ptr, leaf_slf, leaf_trow, leaf_tptr]) nofun
                  refine .cons ?_ .nil
                  exact wvI
                exact .nil
              · exact wvI
            have fx := i2 f55_res f55_rt
            exact rtI

noncomputable def f55_tbl : CI := tbl 55 (fun p : Bool × (List Int) × (List Int) => [.v (.bool p.1), .sl (List.map (cInt .u32) p.2.1), .sl (List.map (cInt .u32) p.2.2)]) (fun p => (f55 p.1 p.2.1 p.2.2).map fun r => .tup [.agg [.v (.bool r.1.Neg), .sl (List.map (cInt .u32) r.1.Num), .sl (List.map (cInt .u32) r.1.Den)], .v (.int .i64 r.2)])
theorem f55_tbl_ok {base : Nat} : CIOK E base f55_tbl := tbl_ok fun p r h => by obtain ⟨q, hq, rfl⟩ := Option.map_eq_some_iff.1 h; exact f55_ok p.1 p.2.1 p.2.2 q hq
theorem f55_call {neg : Bool} {num : List Int} {den : List Int} {r : Ratio × Int} (h : f55 neg num den = some r) (σ : Store) : f55_tbl 55 [.v (.bool neg), .sl (List.map (cInt .u32) num), .sl (List.map (cInt .u32) den)] σ = some (.tup [.agg [.v (.bool r.1.Neg), .sl (List.map (cInt .u32) r.1.Num), .sl (List.map (cInt .u32) r.1.Den)], .v (.int .i64 r.2)], σ, none) :=
  tbl_eq (x := (neg, num, den)) (fun x y e => by
    obtain ⟨x0, x1, x2⟩ := x; obtain ⟨y0, y1, y2⟩ := y
    have e0 := av_bool (List.cons.inj e).1
    have e1 := av_sl inj_int (List.cons.inj (List.cons.inj e).2).1
    have e2 := av_sl inj_int (List.cons.inj (List.cons.inj (List.cons.inj e).2).2).1
    subst e0 e1 e2; rfl) (by simp [h]) σ
end Go.Bx.Scan

/- sibyl/ratio.Read, printed by pf.py. (Own text.) -/
namespace Go.Bx.Scan
set_option linter.unusedVariables false
set_option linter.unusedSimpArgs false
set_option linter.unusedSectionVars false
open Go.Proofs
set_option linter.unusedSimpArgs false
set_option linter.unusedVariables false
set_option maxRecDepth 10000
/-- sibyl/ratio.Read -/
def f45 (s : Str) : Option (Ratio × Int) :=
  if (decide ((s.length : Int) > 4096)) = true then
    (some ((⟨false, [], []⟩ : Ratio), 3))
  else
    (if (s != []) = true then
      (bt s 0 >>= fun b3 =>
      f53 b3 >>= fun r4 =>
      if (r4 == 1) = true then
        (bt s 0 >>= fun b6 =>
        some (b6 == 45, 1))
      else
        some (false, 0))
    else
      some (false, 0) : Option (Bool × Int)) >>= fun o2 =>
    f54 s o2.2 >>= fun r3 =>
    if (!r3.2.2) = true then
      (some ((⟨false, [], []⟩ : Ratio), 21))
    else
      if (decide (r3.2.1 < (s.length : Int))) = true then
        (bt s r3.2.1 >>= fun b6 =>
        f53 b6 >>= fun r7 =>
        if (r7 != 3) = true then
          (some ((⟨false, [], []⟩ : Ratio), 21))
        else
          f54 s (IntKind.i64.wrap (r3.2.1 + 1)) >>= fun r9 =>
          if (!r9.2.2) = true then
            (some ((⟨false, [], []⟩ : Ratio), 21))
          else
            if (decide (r9.2.1 < (s.length : Int))) = true then
              (some ((⟨false, [], []⟩ : Ratio), 21))
            else
              if ((r9.1.length : Int) == 0) = true then
                (some ((⟨false, [], []⟩ : Ratio), 21))
              else
                f55 o2.1 r3.1 r9.1 >>= fun r11 =>
                some ((⟨r11.1.Neg, r11.1.Num, r11.1.Den⟩ : Ratio), r11.2))
      else
        f55 o2.1 r3.1 [1] >>= fun r12 =>
        some ((⟨r12.1.Neg, r12.1.Num, r12.1.Den⟩ : Ratio), r12.2)

noncomputable def f45_ci : CI := (CI.or 53 f53_tbl (CI.or 54 f54_tbl (CI.or 55 f55_tbl (fun _ _ _ => none))))
theorem f45_ci_ok (base : Nat) : CIOK E base f45_ci := (or_ok f53_tbl_ok (or_ok f54_tbl_ok (or_ok f55_tbl_ok no_ok)))
theorem f45_res : Try.f45.results = #[.cell 2 38, .tmp 3] := rfl
theorem f45_rt : Try.f45.resultTypes = #[38, 24] := rfl

set_option maxHeartbeats 4000000 in
theorem f45_ok (s : Str) (r : Ratio × Int) (h : f45 s = some r) : PureOK E 45 [.v (.string (mkS s))] (.tup [.agg [.v (.bool r.1.Neg), .sl (List.map (cInt .u32) r.1.Num), .sl (List.map (cInt .u32) r.1.Den)], .v (.int .i64 r.2)]) := by
  unfold f45 at h
  refine pure_of_wp tabOK mixed (fn := Try.f45) (nt := 74) Try.func45 rfl rfl (names _ _ Try.func45) rfl rfl (fun _ => rfl) (fun base c00 hU => ?_)
  refine Wk.wp (s2 := ⟨.v (.string (mkS s)) :: jj 73 [], St [], none, 0⟩) ?_ ?_
  · refine Wk.weak hU [] _ (by decide) .nil ?_
    simp only [jjs, List.length_cons, List.length_nil, Nat.reduceAdd, Nat.reduceSub, List.replicate, List.cons_append, List.nil_append]
    repeat' (first | exact WVs.nil | refine WVs.cons ?_ ?_)
    all_goals first | exact WV.junk _ | exact WV.keep rfl | exact .agg rfl (aggKeep rfl)
  refine Wp.seq <| Wp.region hU (f45_ci_ok _) rgI <| thenN <| Wp.seq <| Wp.seq <| Wp.region hU (f45_ci_ok _) rgI <| thenN <| ?_
  refine Wp.cond hU (t := decide ((s.length : Int) > 4096)) rfl (fun hc1 => ?_) (fun hc1 => ?_)
  · rw [if_t hc1] at h
    refine Wp.seq <| ?_
    have fx := hc1
    refine Wp.region hU (f45_ci_ok _) rgIF <| thenN <| Wp.ret <| thenR <| ?_
    obtain rfl := Option.some.inj h
    refine ⟨.inl rfl, ?_⟩
    refine Rt.wk (s2 := ⟨jj 2 (.ptr 0 0 0 :: .v (.int .i64 3) :: jj 70 []), St [some ⟨3, false, false, [[.v (.bool false), .sl (List.map (cInt .u32) []), .sl (List.map (cInt .u32) [])]]⟩], none, 0⟩) ?_ (Rt.of ?_)
    · refine Wk.weak hU [some 0] _ (by decide) ?_ ?_
      · refine .obj rfl ?_ ?_
        · refine .mk ?_ (by simp only [bxm, leaf_ptr, leaf_slf, leaf_trow, leaf_tptr]) nofun
          refine .cons ?_ .nil
          exact wvI
        exact .nil
      · exact wvI
    have fx := i2 f45_res f45_rt
    exact rtI
  · rw [if_f hc1] at h
    refine Wp.skip <| thenN <| Wp.seq <| ?_
    have fx := hc1
    refine Wp.region hU (f45_ci_ok _) rgIF <| thenN <| ?_
    obtain ⟨o2, ho2, h⟩ := bind_some h
    refine Wp.seq1 (JP := (fun ex s1 => ex = .nrm ∧ Wk base c00 nilStore s1 ⟨.v (.string (mkS s)) :: jj 1 (.ptr 0 0 0 :: jj 1 (.v (.bool o2.1) :: .v (.int .i64 o2.2) :: jj 68 [])), St [some ⟨3, false, false, [[.v (.bool false), .v (.slice none 0 0), .v (.slice none 0 0)]]⟩], none, 0⟩)) ?_ (fun ex s1 hp => ?_)
    · replace h := ho2
      refine Wp.seq <| ?_
      rcases Bool.eq_false_or_eq_true (s != []) with hg10 | hg10
      · rw [if_t hg10] at h
        obtain ⟨b3, hb3, h⟩ := bind_some h
        obtain ⟨r4, hr4, h⟩ := bind_some h
        have hr4c : ∀ σ, f45_ci 53 [.v (.int .u8 b3)] σ = some (.v (.int .i64 r4), σ, none) := fun σ => f53_call hr4 σ
        have fx := i4 hb3 hr4c hc1 hg10
        refine Wp.region hU (f45_ci_ok _) rgIF <| thenN <| ?_
        refine Wp.cond hU (t := r4 == 1) rfl (fun hc5 => ?_) (fun hc5 => ?_)
        · rw [if_t hc5] at h
          obtain ⟨b6, hb6, h⟩ := bind_some h
          have fx := i4 hb6 hc1 hg10 hc5
          refine Wp.region hU (f45_ci_ok _) rgIF <| ?_
          obtain rfl := Option.some.inj h
          refine ⟨rfl, ?_⟩
          refine Wk.weak hU [some 0] _ (by decide) ?_ ?_
          · refine .obj rfl ?_ ?_
            · refine .mk ?_ (by simp only [bxm, leaf_ptr, leaf_slf, leaf_trow, leaf_tptr]) nofun
              refine .cons ?_ .nil
              exact wvI
            exact .nil
          · exact wvI
        · rw [if_f hc5] at h
          refine Wp.skip <| ?_
          obtain rfl := Option.some.inj h
          refine ⟨rfl, ?_⟩
          refine Wk.weak hU [some 0] _ (by decide) ?_ ?_
          · refine .obj rfl ?_ ?_
            · refine .mk ?_ (by simp only [bxm, leaf_ptr, leaf_slf, leaf_trow, leaf_tptr]) nofun
              refine .cons ?_ .nil
              exact wvI
            exact .nil
          · exact wvI
      · rw [if_f hg10] at h
        have fx := i2 hc1 hg10
        refine Wp.region hU (f45_ci_ok _) rgIF <| thenN <| ?_
        refine Wp.cond hU (t := false) rfl (fun hc => by cases hc) (fun _ => ?_)
        refine Wp.skip <| ?_
        obtain rfl := Option.some.inj h
        refine ⟨rfl, ?_⟩
        refine Wk.weak hU [some 0] _ (by decide) ?_ ?_
        · refine .obj rfl ?_ ?_
          · refine .mk ?_ (by simp only [bxm, leaf_ptr, leaf_slf, leaf_trow, leaf_tptr]) nofun
            refine .cons ?_ .nil
            exact wvI
          exact .nil
        · exact wvI
    · obtain ⟨rfl, hp⟩ := hp
      refine thenN (hp.wp ?_)
      refine Wp.seq <| ?_
      obtain ⟨r3, hr3, h⟩ := bind_some h
      have hr3c : ∀ σ, f45_ci 54 [.v (.string (mkS s)), .v (.int .i64 o2.2)] σ = some (.tup [.own false 1 (List.map (cInt .u32) r3.1), .v (.int .i64 r3.2.1), .v (.bool r3.2.2)], σ, none) := fun σ => f54_call hr3 σ
      have fx := i2 hr3c hc1
      refine Wp.region hU (f45_ci_ok _) rgIF <| thenN <| Wp.seq <| Wp.seq <| ?_
      have fx := hc1
      refine Wp.region hU (f45_ci_ok _) rgIF <| thenN <| ?_
      refine Wp.cond hU (t := !r3.2.2) rfl (fun hc4 => ?_) (fun hc4 => ?_)
      · rw [if_t hc4] at h
        refine Wp.seq <| ?_
        have fx := i2 hc1 hc4
        refine Wp.region hU (f45_ci_ok _) rgIF <| thenN <| Wp.ret <| thenR <| ?_
        obtain rfl := Option.some.inj h
        refine ⟨.inl rfl, ?_⟩
        refine Rt.wk (s2 := ⟨jj 2 (.ptr 0 0 0 :: .v (.int .i64 21) :: jj 70 []), St [some ⟨3, false, false, [[.v (.bool false), .sl (List.map (cInt .u32) []), .sl (List.map (cInt .u32) [])]]⟩], none, 0⟩) ?_ (Rt.of ?_)
        · refine Wk.weak hU [some 0] _ (by decide) ?_ ?_
          · refine .obj rfl ?_ ?_
            · refine .mk ?_ (by simp only [bxm, leaf_ptr, leaf_slf, leaf_trow, leaf_tptr]) nofun
              refine .cons ?_ .nil
              exact wvI
            exact .nil
          · exact wvI
        have fx := i2 f45_res f45_rt
        exact rtI
      · rw [if_f hc4] at h
        refine Wp.skip <| thenN <| Wp.seq <| ?_
        have fx := i2 hc1 hc4
        refine Wp.region hU (f45_ci_ok _) rgIF <| thenN <| Wp.seq <| Wp.seq <| Wp.region hU (f45_ci_ok _) rgIF <| thenN <| ?_
        refine Wp.cond hU (t := decide (r3.2.1 < (s.length : Int))) rfl (fun hc5 => ?_) (fun hc5 => ?_)
        · rw [if_t hc5] at h
          refine Wp.seq <| Wp.seq <| ?_
          obtain ⟨b6, hb6, h⟩ := bind_some h
          obtain ⟨r7, hr7, h⟩ := bind_some h
          have hr7c : ∀ σ, f45_ci 53 [.v (.int .u8 b6)] σ = some (.v (.int .i64 r7), σ, none) := fun σ => f53_call hr7 σ
          have fx := i5 hb6 hr7c hc1 hc4 hc5
          refine Wp.region hU (f45_ci_ok _) rgIF <| thenN <| ?_
          refine Wp.cond hU (t := r7 != 3) rfl (fun hc8 => ?_) (fun hc8 => ?_)
          · rw [if_t hc8] at h
            refine Wp.seq <| ?_
            have fx := i4 hc1 hc4 hc5 hc8
            refine Wp.region hU (f45_ci_ok _) rgIF <| thenN <| Wp.ret <| thenR <| thenR <| ?_
            obtain rfl := Option.some.inj h
            refine ⟨.inl rfl, ?_⟩
            refine Rt.wk (s2 := ⟨jj 2 (.ptr 0 0 0 :: .v (.int .i64 21) :: jj 70 []), St [some ⟨3, false, false, [[.v (.bool false), .sl (List.map (cInt .u32) []), .sl (List.map (cInt .u32) [])]]⟩], none, 0⟩) ?_ (Rt.of ?_)
            · refine Wk.weak hU [some 0] _ (by decide) ?_ ?_
              · refine .obj rfl ?_ ?_
                · refine .mk ?_ (by simp only [bxm, leaf_ptr, leaf_slf, leaf_trow, leaf_tptr]) nofun
                  refine .cons ?_ .nil
                  exact wvI
                exact .nil
              · exact wvI
            have fx := i2 f45_res f45_rt
            exact rtI
          · rw [if_f hc8] at h
            refine Wp.skip <| thenN <| Wp.seq <| ?_
            obtain ⟨r9, hr9, h⟩ := bind_some h
            have hr9c : ∀ σ, f45_ci 54 [.v (.string (mkS s)), .v (.int .i64 (IntKind.i64.wrap (r3.2.1 + 1)))] σ = some (.tup [.own false 1 (List.map (cInt .u32) r9.1), .v (.int .i64 r9.2.1), .v (.bool r9.2.2)], σ, none) := fun σ => f54_call hr9 σ
            have fx := i5 hr9c hc1 hc4 hc5 hc8
            refine Wp.region hU (f45_ci_ok _) rgIF <| thenN <| Wp.seq <| ?_
            rcases Bool.eq_false_or_eq_true (!r9.2.2) with hg13 | hg13
            · rw [if_t hg13] at h
              have fx := i5 hc1 hc4 hc5 hc8 hg13
              refine Wp.region hU (f45_ci_ok _) rgIF <| thenN <| ?_
              refine Wp.cond hU (t := true) rfl (fun _ => ?_) (fun hc => by cases hc)
              refine Wp.seq <| Wp.region hU (f45_ci_ok _) rgIF <| thenN <| Wp.ret <| thenR <| ?_
              obtain rfl := Option.some.inj h
              refine ⟨.inl rfl, ?_⟩
              refine Rt.wk (s2 := ⟨jj 2 (.ptr 0 0 0 :: .v (.int .i64 21) :: jj 70 []), St [some ⟨3, false, false, [[.v (.bool false), .sl (List.map (cInt .u32) []), .sl (List.map (cInt .u32) [])]]⟩], none, 0⟩) ?_ (Rt.of ?_)
              · refine Wk.weak hU [some 0] _ (by decide) ?_ ?_
                · refine .obj rfl ?_ ?_
                  · refine .mk ?_ (by simp only [bxm, leaf_ptr, leaf_slf, leaf_trow, leaf_tptr]) nofun
                    refine .cons ?_ .nil
                    exact wvI
                  exact .nil
                · exact wvI
              have fx := i2 f45_res f45_rt
              exact rtI
            · rw [if_f hg13] at h
              rcases Bool.eq_false_or_eq_true (decide (r9.2.1 < (s.length : Int))) with hg14 | hg14
              · rw [if_t hg14] at h
                have fx := i6 hc1 hc4 hc5 hc8 hg13 hg14
                refine Wp.region hU (f45_ci_ok _) rgIF <| thenN <| ?_
                refine Wp.cond hU (t := true) rfl (fun _ => ?_) (fun hc => by cases hc)
                refine Wp.seq <| Wp.region hU (f45_ci_ok _) rgIF <| thenN <| Wp.ret <| thenR <| ?_
                obtain rfl := Option.some.inj h
                refine ⟨.inl rfl, ?_⟩
                refine Rt.wk (s2 := ⟨jj 2 (.ptr 0 0 0 :: .v (.int .i64 21) :: jj 70 []), St [some ⟨3, false, false, [[.v (.bool false), .sl (List.map (cInt .u32) []), .sl (List.map (cInt .u32) [])]]⟩], none, 0⟩) ?_ (Rt.of ?_)
                · refine Wk.weak hU [some 0] _ (by decide) ?_ ?_
                  · refine .obj rfl ?_ ?_
                    · refine .mk ?_ (by simp only [bxm, leaf_ptr, leaf_slf, leaf_trow, leaf_tptr]) nofun
                      refine .cons ?_ .nil
                      exact wvI
                    exact .nil
                  · exact wvI
                have fx := i2 f45_res f45_rt
                exact rtI
              · rw [if_f hg14] at h
                have fx := i6 hc1 hc4 hc5 hc8 hg13 hg14
                refine Wp.region hU (f45_ci_ok _) rgIF <| thenN <| ?_
                refine Wp.cond hU (t := (r9.1.length : Int) == 0) rfl (fun hc10 => ?_) (fun hc10 => ?_)
                · rw [if_t hc10] at h
                  refine Wp.seq <| ?_
                  have fx := i7 hc1 hc4 hc5 hc8 hg13 hg14 hc10
                  refine Wp.region hU (f45_ci_ok _) rgIF <| thenN <| Wp.ret <| thenR <| ?_
                  obtain rfl := Option.some.inj h
                  refine ⟨.inl rfl, ?_⟩
                  refine Rt.wk (s2 := ⟨jj 2 (.ptr 0 0 0 :: .v (.int .i64 21) :: jj 70 []), St [some ⟨3, false, false, [[.v (.bool false), .sl (List.map (cInt .u32) []), .sl (List.map (cInt .u32) [])]]⟩], none, 0⟩) ?_ (Rt.of ?_)
                  · refine Wk.weak hU [some 0] _ (by decide) ?_ ?_
                    · refine .obj rfl ?_ ?_
                      · refine .mk ?_ (by simp only [bxm, leaf_ptr, leaf_slf, leaf_trow, leaf_tptr]) nofun
                        refine .cons ?_ .nil
                        exact wvI
                      exact .nil
                    · exact wvI
                  have fx := i2 f45_res f45_rt
                  exact rtI
                · rw [if_f hc10] at h
                  refine Wp.skip <| thenN <| Wp.seq <| ?_
                  obtain ⟨r11, hr11, h⟩ := bind_some h
                  have hr11c : ∀ σ, f45_ci 55 [.v (.bool o2.1), .sl (List.map (cInt .u32) r3.1), .sl (List.map (cInt .u32) r9.1)] σ = some (.tup [.agg [.v (.bool r11.1.Neg), .sl (List.map (cInt .u32) r11.1.Num), .sl (List.map (cInt .u32) r11.1.Den)], .v (.int .i64 r11.2)], σ, none) := fun σ => f55_call hr11 σ
                  have fx := i8 hr11c hc1 hc4 hc5 hc8 hg13 hg14 hc10
                  refine Wp.region hU (f45_ci_ok _) rgIF <| thenN <| Wp.ret <| ?_
                  obtain rfl := Option.some.inj h
                  refine ⟨.inl rfl, ?_⟩
                  refine Rt.of <| ?_
                  have fx := i2 f45_res f45_rt
                  exact rtI
        · rw [if_f hc5] at h
          refine Wp.skip <| thenN <| Wp.seq <| ?_
          obtain ⟨r12, hr12, h⟩ := bind_some h
          have hr12c : ∀ σ, f45_ci 55 [.v (.bool o2.1), .sl (List.map (cInt .u32) r3.1), .sl (List.map (cInt .u32) [1])] σ = some (.tup [.agg [.v (.bool r12.1.Neg), .sl (List.map (cInt .u32) r12.1.Num), .sl (List.map (cInt .u32) r12.1.Den)], .v (.int .i64 r12.2)], σ, none) := fun σ => f55_call hr12 σ
          try simp only [List.map_cons, List.map_nil, cInt_eq, cBool_eq, cStr_eq, cSl_eq, tys] at hr12c
          have fx := i4 hr12c hc1 hc4 hc5
          refine Wp.region hU (f45_ci_ok _) rgIF <| thenN <| Wp.ret <| ?_
          obtain rfl := Option.some.inj h
          refine ⟨.inl rfl, ?_⟩
          refine Rt.of <| ?_
          have fx := i2 f45_res f45_rt
          exact rtI

noncomputable def f45_tbl : CI := tbl 45 (fun p : Str => [.v (.string (mkS p))]) (fun p => (f45 p).map fun r => .tup [.agg [.v (.bool r.1.Neg), .sl (List.map (cInt .u32) r.1.Num), .sl (List.map (cInt .u32) r.1.Den)], .v (.int .i64 r.2)])
theorem f45_tbl_ok {base : Nat} : CIOK E base f45_tbl := tbl_ok fun p r h => by obtain ⟨q, hq, rfl⟩ := Option.map_eq_some_iff.1 h; exact f45_ok p q hq
theorem f45_call {s : Str} {r : Ratio × Int} (h : f45 s = some r) (σ : Store) : f45_tbl 45 [.v (.string (mkS s))] σ = some (.tup [.agg [.v (.bool r.1.Neg), .sl (List.map (cInt .u32) r.1.Num), .sl (List.map (cInt .u32) r.1.Den)], .v (.int .i64 r.2)], σ, none) :=
  tbl_eq (x := (s)) (fun x y e => by
    exact av_str (List.cons.inj e).1) (by simp [h]) σ
end Go.Bx.Scan

/- sibyl/sibylref04.first, printed by pf.py. (Own text.) -/
namespace Go.Bx.Scan
set_option linter.unusedVariables false
set_option linter.unusedSimpArgs false
set_option linter.unusedSectionVars false
open Go.Proofs
set_option linter.unusedSimpArgs false
set_option linter.unusedVariables false
set_option maxRecDepth 10000
/-- sibyl/sibylref04.first -/
def f38 (c : Int) : Option (Bool) :=
  (if (decide (c ≥ 97)) = true then
    (if (decide (c ≤ 122)) = true then
      (some true)
    else
      if (decide (c ≥ 65)) = true then
        (if (decide (c ≤ 90)) = true then
          (some true)
        else
          f21 c [33, 36, 37, 38, 42, 47, 58, 60, 61, 62, 63, 94, 95, 126] >>= fun r2 =>
          some r2)
      else
        f21 c [33, 36, 37, 38, 42, 47, 58, 60, 61, 62, 63, 94, 95, 126] >>= fun r2 =>
        some r2)
  else
    if (decide (c ≥ 65)) = true then
      (if (decide (c ≤ 90)) = true then
        (some true)
      else
        f21 c [33, 36, 37, 38, 42, 47, 58, 60, 61, 62, 63, 94, 95, 126] >>= fun r2 =>
        some r2)
    else
      f21 c [33, 36, 37, 38, 42, 47, 58, 60, 61, 62, 63, 94, 95, 126] >>= fun r2 =>
      some r2 : Option (Bool)) >>= fun o1 =>
  some o1

noncomputable def f38_ci : CI := (CI.or 21 f21_tbl (fun _ _ _ => none))
theorem f38_ci_ok (base : Nat) : CIOK E base f38_ci := (or_ok f21_tbl_ok no_ok)
theorem f38_res : Try.f38.results = #[.tmp 2] := rfl
theorem f38_rt : Try.f38.resultTypes = #[4] := rfl

set_option maxHeartbeats 4000000 in
theorem f38_ok (c : Int) (r : Bool) (h : f38 c = some r) : PureOK E 38 [.v (.int .u8 c)] (.v (.bool r)) := by
  unfold f38 at h
  refine pure_of_wp tabOK mixed (fn := Try.f38) (nt := 21) Try.func38 rfl rfl (names _ _ Try.func38) rfl rfl (fun _ => rfl) (fun base c00 hU => ?_)
  refine Wk.wp (s2 := ⟨.v (.int .u8 c) :: jj 20 [], St [], none, 0⟩) ?_ ?_
  · refine Wk.weak hU [] _ (by decide) .nil ?_
    simp only [jjs, List.length_cons, List.length_nil, Nat.reduceAdd, Nat.reduceSub, List.replicate, List.cons_append, List.nil_append]
    repeat' (first | exact WVs.nil | refine WVs.cons ?_ ?_)
    all_goals first | exact WV.junk _ | exact WV.keep rfl | exact .agg rfl (aggKeep rfl)
  refine Wp.seq <| Wp.region hU (f38_ci_ok _) rgI <| thenN <| ?_
  obtain ⟨o1, ho1, h⟩ := bind_some h
  refine Wp.seq1 (JP := (fun ex s1 => ex = .nrm ∧ Wk base c00 nilStore s1 ⟨jj 2 (.v (.bool o1) :: jj 18 []), St [], none, 0⟩)) ?_ (fun ex s1 hp => ?_)
  · replace h := ho1
    rcases Bool.eq_false_or_eq_true (decide (c ≥ 97)) with hg13 | hg13
    · rw [if_t hg13] at h
      rcases Bool.eq_false_or_eq_true (decide (c ≤ 122)) with hg14 | hg14
      · rw [if_t hg14] at h
        have fx := i2 hg13 hg14
        refine Wp.region hU (f38_ci_ok _) rgIF <| ?_
        obtain rfl := Option.some.inj h
        refine ⟨rfl, ?_⟩
        refine Wk.weak hU [] _ (by decide) ?_ ?_
        · exact .nil
        · exact wvI
      · rw [if_f hg14] at h
        rcases Bool.eq_false_or_eq_true (decide (c ≥ 65)) with hg15 | hg15
        · rw [if_t hg15] at h
          rcases Bool.eq_false_or_eq_true (decide (c ≤ 90)) with hg16 | hg16
          · rw [if_t hg16] at h
            have fx := i4 hg13 hg14 hg15 hg16
            refine Wp.region hU (f38_ci_ok _) rgIF <| ?_
            obtain rfl := Option.some.inj h
            refine ⟨rfl, ?_⟩
            refine Wk.weak hU [] _ (by decide) ?_ ?_
            · exact .nil
            · exact wvI
          · rw [if_f hg16] at h
            obtain ⟨r2, hr2, h⟩ := bind_some h
            have hr2c : ∀ σ, f38_ci 21 [.v (.int .u8 c), .v (.string (mkS [33, 36, 37, 38, 42, 47, 58, 60, 61, 62, 63, 94, 95, 126]))] σ = some (.v (.bool r2), σ, none) := fun σ => f21_call hr2 σ
            try simp only [List.map_cons, List.map_nil, cInt_eq, cBool_eq, cStr_eq, cSl_eq, tys] at hr2c
            have fx := i5 hr2c hg13 hg14 hg15 hg16
            refine Wp.region hU (f38_ci_ok _) rgIF <| ?_
            obtain rfl := Option.some.inj h
            refine ⟨rfl, ?_⟩
            refine Wk.weak hU [] _ (by decide) ?_ ?_
            · exact .nil
            · exact wvI
        · rw [if_f hg15] at h
          obtain ⟨r2, hr2, h⟩ := bind_some h
          have hr2c : ∀ σ, f38_ci 21 [.v (.int .u8 c), .v (.string (mkS [33, 36, 37, 38, 42, 47, 58, 60, 61, 62, 63, 94, 95, 126]))] σ = some (.v (.bool r2), σ, none) := fun σ => f21_call hr2 σ
          try simp only [List.map_cons, List.map_nil, cInt_eq, cBool_eq, cStr_eq, cSl_eq, tys] at hr2c
          have fx := i4 hr2c hg13 hg14 hg15
          refine Wp.region hU (f38_ci_ok _) rgIF <| ?_
          obtain rfl := Option.some.inj h
          refine ⟨rfl, ?_⟩
          refine Wk.weak hU [] _ (by decide) ?_ ?_
          · exact .nil
          · exact wvI
    · rw [if_f hg13] at h
      rcases Bool.eq_false_or_eq_true (decide (c ≥ 65)) with hg17 | hg17
      · rw [if_t hg17] at h
        rcases Bool.eq_false_or_eq_true (decide (c ≤ 90)) with hg18 | hg18
        · rw [if_t hg18] at h
          have fx := i3 hg13 hg17 hg18
          refine Wp.region hU (f38_ci_ok _) rgIF <| ?_
          obtain rfl := Option.some.inj h
          refine ⟨rfl, ?_⟩
          refine Wk.weak hU [] _ (by decide) ?_ ?_
          · exact .nil
          · exact wvI
        · rw [if_f hg18] at h
          obtain ⟨r2, hr2, h⟩ := bind_some h
          have hr2c : ∀ σ, f38_ci 21 [.v (.int .u8 c), .v (.string (mkS [33, 36, 37, 38, 42, 47, 58, 60, 61, 62, 63, 94, 95, 126]))] σ = some (.v (.bool r2), σ, none) := fun σ => f21_call hr2 σ
          try simp only [List.map_cons, List.map_nil, cInt_eq, cBool_eq, cStr_eq, cSl_eq, tys] at hr2c
          have fx := i4 hr2c hg13 hg17 hg18
          refine Wp.region hU (f38_ci_ok _) rgIF <| ?_
          obtain rfl := Option.some.inj h
          refine ⟨rfl, ?_⟩
          refine Wk.weak hU [] _ (by decide) ?_ ?_
          · exact .nil
          · exact wvI
      · rw [if_f hg17] at h
        obtain ⟨r2, hr2, h⟩ := bind_some h
        have hr2c : ∀ σ, f38_ci 21 [.v (.int .u8 c), .v (.string (mkS [33, 36, 37, 38, 42, 47, 58, 60, 61, 62, 63, 94, 95, 126]))] σ = some (.v (.bool r2), σ, none) := fun σ => f21_call hr2 σ
        try simp only [List.map_cons, List.map_nil, cInt_eq, cBool_eq, cStr_eq, cSl_eq, tys] at hr2c
        have fx := i3 hr2c hg13 hg17
        refine Wp.region hU (f38_ci_ok _) rgIF <| ?_
        obtain rfl := Option.some.inj h
        refine ⟨rfl, ?_⟩
        refine Wk.weak hU [] _ (by decide) ?_ ?_
        · exact .nil
        · exact wvI
  · obtain ⟨rfl, hp⟩ := hp
    refine thenN (hp.wp ?_)
    refine Wp.ret <| ?_
    obtain rfl := Option.some.inj h
    refine ⟨.inl rfl, ?_⟩
    refine Rt.of <| ?_
    have fx := i2 f38_res f38_rt
    exact rtI

noncomputable def f38_tbl : CI := tbl 38 (fun p : Int => [.v (.int .u8 p)]) (fun p => (f38 p).map fun r => .v (.bool r))
theorem f38_tbl_ok {base : Nat} : CIOK E base f38_tbl := tbl_ok fun p r h => by obtain ⟨q, hq, rfl⟩ := Option.map_eq_some_iff.1 h; exact f38_ok p q hq
theorem f38_call {c : Int} {r : Bool} (h : f38 c = some r) (σ : Store) : f38_tbl 38 [.v (.int .u8 c)] σ = some (.v (.bool r), σ, none) :=
  tbl_eq (x := (c)) (fun x y e => by
    exact av_int (List.cons.inj e).1) (by simp [h]) σ
end Go.Bx.Scan

/- sibyl/sibylref04.shape, printed by pf.py. (Own text.) -/
namespace Go.Bx.Scan
set_option linter.unusedVariables false
set_option linter.unusedSimpArgs false
set_option linter.unusedSectionVars false
open Go.Proofs
set_option linter.unusedSimpArgs false
set_option linter.unusedVariables false
set_option maxRecDepth 10000
def f25_l0 (s : Str) (i : Int) : Option (Ou Bool Unit) :=
  if (decide (i < (s.length : Int))) = true then
    ((bt s i >>= fun b8 =>
    f38 b8 >>= fun r9 =>
    if (!r9) = true then
      (f21 b8 [48, 49, 50, 51, 52, 53, 54, 55, 56, 57, 43, 45, 46, 64] >>= fun r10 =>
      if (!r10) = true then
        (some (.ret false))
      else
        some (.nxt ()))
    else
      some (.nxt ()) : Option (Ou Bool Unit)) >>= fun o7 => match o7 with
    | .ret r0 => some (.ret r0)
    | .nxt wo7 =>
      f25_l0 s (IntKind.i64.wrap (i + 1)))
  else
    some (.nxt ())
  partial_fixpoint

/-- sibyl/sibylref04.shape -/
def f25 (s : Str) : Option (Bool) :=
  if (s == [43]) = true then
    (some true)
  else
    if (s == [45]) = true then
      (some true)
    else
      if ((s.length : Int) == 0) = true then
        (some false)
      else
        bt s 0 >>= fun b2 =>
        f38 b2 >>= fun r3 =>
        if (!r3) = true then
          (some false)
        else
          f25_l0 s 1 >>= fun o5 => match o5 with
          | .ret r0 => some r0
          | .nxt wo5 =>
            some true

noncomputable def f25_ci : CI := (CI.or 38 f38_tbl (CI.or 21 f21_tbl (fun _ _ _ => none)))
theorem f25_ci_ok (base : Nat) : CIOK E base f25_ci := (or_ok f38_tbl_ok (or_ok f21_tbl_ok no_ok))
theorem f25_res : Try.f25.results = #[.tmp 2] := rfl
theorem f25_rt : Try.f25.resultTypes = #[4] := rfl

set_option maxHeartbeats 4000000 in
theorem f25_l0_ok {base : Nat} {c00 : Ctx} (s : Str) (hU : Under E base c00 nilStore) : ∀ (i : Int) (o5 : Ou Bool Unit), f25_l0 s i = some o5 →
    WpL E base c00 nilStore (lb Try.f25 0) ⟨.v (.string (mkS s)) :: jj 2 (.v (.int .i64 i) :: jj 33 []), St [], none, 0⟩ (fun ex s1 => match o5 with | .ret r0 => ex = .ret ∧ Rt E base c00 Try.f25 (.v (.bool r0)) s1 | .nxt wo5 => ex = .exit 0 ∧ Wk base c00 nilStore s1 ⟨jj 37 [], St [], none, 0⟩) := by
  refine f25_l0.partial_correctness s _ ?_
  intro lp__ ih i o5 h
  refine WpL.stepE (by simp only [Try.f25, lb, Option.getD_some, loopsOf, List.nil_append, List.append_nil, List.cons_append, List.getElem?_cons_zero, List.getElem?_cons_succ] <;> rfl) ?_
  refine Wp.seq <| Wp.seq <| Wp.region hU (f25_ci_ok _) rgI <| thenN <| ?_
  refine Wp.cond hU (t := decide (i < (s.length : Int))) rfl (fun hc6 => ?_) (fun hc6 => ?_)
  · rw [if_t hc6] at h
    refine Wp.skip <| thenN <| ?_
    obtain ⟨o7, ho7, h⟩ := bind_some h
    refine Wp.seq1 (JP := (fun ex s1 => match o7 with | .ret r0 => ex = .ret ∧ Rt E base c00 Try.f25 (.v (.bool r0)) s1 | .nxt wo7 => ex = .nrm ∧ Wk base c00 nilStore s1 ⟨.v (.string (mkS s)) :: jj 2 (.v (.int .i64 i) :: jj 33 []), St [], none, 0⟩)) ?_ (fun ex s1 hp => ?_)
    · replace h := ho7
      refine Wp.block <| Wp.seq <| ?_
      obtain ⟨b8, hb8, h⟩ := bind_some h
      obtain ⟨r9, hr9, h⟩ := bind_some h
      have hr9c : ∀ σ, f25_ci 38 [.v (.int .u8 b8)] σ = some (.v (.bool r9), σ, none) := fun σ => f38_call hr9 σ
      rcases Bool.eq_false_or_eq_true (!r9) with hg28 | hg28
      · rw [if_t hg28] at h
        obtain ⟨r10, hr10, h⟩ := bind_some h
        have hr10c : ∀ σ, f25_ci 21 [.v (.int .u8 b8), .v (.string (mkS [48, 49, 50, 51, 52, 53, 54, 55, 56, 57, 43, 45, 46, 64]))] σ = some (.v (.bool r10), σ, none) := fun σ => f21_call hr10 σ
        try simp only [List.map_cons, List.map_nil, cInt_eq, cBool_eq, cStr_eq, cSl_eq, tys] at hr10c
        have fx := i5 hb8 hr9c hr10c hc6 hg28
        refine Wp.region hU (f25_ci_ok _) rgIF <| thenN <| ?_
        refine Wp.cond hU (t := !r10) rfl (fun hc11 => ?_) (fun hc11 => ?_)
        · rw [if_t hc11] at h
          refine Wp.seq <| ?_
          have fx := i3 hc6 hg28 hc11
          refine Wp.region hU (f25_ci_ok _) rgIF <| thenN <| Wp.ret <| blkR <| ?_
          obtain rfl := Option.some.inj h
          refine ⟨rfl, ?_⟩
          refine Rt.of <| ?_
          have fx := i2 f25_res f25_rt
          exact rtI
        · rw [if_f hc11] at h
          refine Wp.skip <| blkN <| ?_
          obtain rfl := Option.some.inj h
          refine ⟨rfl, ?_⟩
          refine Wk.weak hU [] _ (by decide) ?_ ?_
          · exact .nil
          · exact wvI
      · rw [if_f hg28] at h
        have fx := i4 hb8 hr9c hc6 hg28
        refine Wp.region hU (f25_ci_ok _) rgIF <| thenN <| ?_
        refine Wp.cond hU (t := false) rfl (fun hc => by cases hc) (fun _ => ?_)
        refine Wp.skip <| blkN <| ?_
        obtain rfl := Option.some.inj h
        refine ⟨rfl, ?_⟩
        refine Wk.weak hU [] _ (by decide) ?_ ?_
        · exact .nil
        · exact wvI
    · cases o7 with
      | ret r0 =>
        obtain ⟨rfl, hp⟩ := hp
        obtain rfl := Option.some.inj h
        refine thenR <| againR <| ?_
        exact ⟨rfl, hp⟩
      | nxt wo7 =>
        obtain ⟨rfl, hp⟩ := hp
        dsimp only at h
        refine thenN (hp.wp ?_)
        have fx := hc6
        refine Wp.region hU (f25_ci_ok _) rgIF <| againN <| ?_
        refine Wk.wpL ?_ (ih (IntKind.i64.wrap (i + 1)) _ h)
        refine Wk.weak hU [] _ (by decide) ?_ ?_
        · exact .nil
        · exact wvI
  · rw [if_f hc6] at h
    refine Wp.exit <| thenE <| againE <| ?_
    obtain rfl := Option.some.inj h
    refine ⟨rfl, ?_⟩
    refine Wk.weak hU [] _ (by decide) ?_ ?_
    · exact .nil
    · exact wvI

set_option maxHeartbeats 4000000 in
theorem f25_ok (s : Str) (r : Bool) (h : f25 s = some r) : PureOK E 25 [.v (.string (mkS s))] (.v (.bool r)) := by
  unfold f25 at h
  refine pure_of_wp tabOK mixed (fn := Try.f25) (nt := 37) Try.func25 rfl rfl (names _ _ Try.func25) rfl rfl (fun _ => rfl) (fun base c00 hU => ?_)
  refine Wk.wp (s2 := ⟨.v (.string (mkS s)) :: jj 36 [], St [], none, 0⟩) ?_ ?_
  · refine Wk.weak hU [] _ (by decide) .nil ?_
    simp only [jjs, List.length_cons, List.length_nil, Nat.reduceAdd, Nat.reduceSub, List.replicate, List.cons_append, List.nil_append]
    repeat' (first | exact WVs.nil | refine WVs.cons ?_ ?_)
    all_goals first | exact WV.junk _ | exact WV.keep rfl | exact .agg rfl (aggKeep rfl)
  refine Wp.seq <| Wp.region hU (f25_ci_ok _) rgI <| thenN <| Wp.seq <| Wp.seq <| ?_
  rcases Bool.eq_false_or_eq_true (s == [43]) with hg16 | hg16
  · rw [if_t hg16] at h
    have fx := hg16
    refine Wp.region hU (f25_ci_ok _) rgIF <| thenN <| ?_
    refine Wp.cond hU (t := true) rfl (fun _ => ?_) (fun hc => by cases hc)
    refine Wp.seq <| Wp.region hU (f25_ci_ok _) rgIF <| thenN <| Wp.ret <| thenR <| ?_
    obtain rfl := Option.some.inj h
    refine ⟨.inl rfl, ?_⟩
    refine Rt.of <| ?_
    have fx := i2 f25_res f25_rt
    exact rtI
  · rw [if_f hg16] at h
    have fx := hg16
    refine Wp.region hU (f25_ci_ok _) rgIF <| thenN <| ?_
    refine Wp.cond hU (t := s == [45]) rfl (fun hc1 => ?_) (fun hc1 => ?_)
    · rw [if_t hc1] at h
      refine Wp.seq <| ?_
      have fx := i2 hg16 hc1
      refine Wp.region hU (f25_ci_ok _) rgIF <| thenN <| Wp.ret <| thenR <| ?_
      obtain rfl := Option.some.inj h
      refine ⟨.inl rfl, ?_⟩
      refine Rt.of <| ?_
      have fx := i2 f25_res f25_rt
      exact rtI
    · rw [if_f hc1] at h
      refine Wp.skip <| thenN <| Wp.seq <| Wp.seq <| ?_
      rcases Bool.eq_false_or_eq_true ((s.length : Int) == 0) with hg20 | hg20
      · rw [if_t hg20] at h
        have fx := i3 hg16 hc1 hg20
        refine Wp.region hU (f25_ci_ok _) rgIF <| thenN <| ?_
        refine Wp.cond hU (t := true) rfl (fun _ => ?_) (fun hc => by cases hc)
        refine Wp.seq <| Wp.region hU (f25_ci_ok _) rgIF <| thenN <| Wp.ret <| thenR <| ?_
        obtain rfl := Option.some.inj h
        refine ⟨.inl rfl, ?_⟩
        refine Rt.of <| ?_
        have fx := i2 f25_res f25_rt
        exact rtI
      · rw [if_f hg20] at h
        obtain ⟨b2, hb2, h⟩ := bind_some h
        obtain ⟨r3, hr3, h⟩ := bind_some h
        have hr3c : ∀ σ, f25_ci 38 [.v (.int .u8 b2)] σ = some (.v (.bool r3), σ, none) := fun σ => f38_call hr3 σ
        have fx := i5 hb2 hr3c hg16 hc1 hg20
        refine Wp.region hU (f25_ci_ok _) rgIF <| thenN <| ?_
        refine Wp.cond hU (t := !r3) rfl (fun hc4 => ?_) (fun hc4 => ?_)
        · rw [if_t hc4] at h
          refine Wp.seq <| ?_
          have fx := i4 hg16 hc1 hg20 hc4
          refine Wp.region hU (f25_ci_ok _) rgIF <| thenN <| Wp.ret <| thenR <| ?_
          obtain rfl := Option.some.inj h
          refine ⟨.inl rfl, ?_⟩
          refine Rt.of <| ?_
          have fx := i2 f25_res f25_rt
          exact rtI
        · rw [if_f hc4] at h
          refine Wp.skip <| thenN <| Wp.seq <| Wp.seq <| ?_
          have fx := i4 hg16 hc1 hg20 hc4
          refine Wp.region hU (f25_ci_ok _) rgIF <| thenN <| Wp.block <| ?_
          obtain ⟨o5, ho5, h⟩ := bind_some h
          refine Wp.loop <| ?_
          refine Tw.mono (Wk.wpL (s2 := ⟨.v (.string (mkS s)) :: jj 2 (.v (.int .i64 1) :: jj 33 []), St [], none, 0⟩) ?_ (f25_l0_ok s hU 1 o5 ho5)) (fun ex s1 hp => ?_)
          · refine Wk.weak hU [] _ (by decide) ?_ ?_
            · exact .nil
            · exact wvI
          · cases o5 with
            | ret r0 =>
              obtain ⟨rfl, hp⟩ := hp
              obtain rfl := Option.some.inj h
              refine blkR <| thenR <| ?_
              exact ⟨.inl rfl, hp⟩
            | nxt wo5 =>
              obtain ⟨rfl, hp⟩ := hp
              dsimp only at h
              refine blkE <| thenN <| hp.wp <| Wp.seq <| Wp.region hU (f25_ci_ok _) rgIF <| thenN <| Wp.ret <| ?_
              obtain rfl := Option.some.inj h
              refine ⟨.inl rfl, ?_⟩
              refine Rt.of <| ?_
              have fx := i2 f25_res f25_rt
              exact rtI

noncomputable def f25_tbl : CI := tbl 25 (fun p : Str => [.v (.string (mkS p))]) (fun p => (f25 p).map fun r => .v (.bool r))
theorem f25_tbl_ok {base : Nat} : CIOK E base f25_tbl := tbl_ok fun p r h => by obtain ⟨q, hq, rfl⟩ := Option.map_eq_some_iff.1 h; exact f25_ok p q hq
theorem f25_call {s : Str} {r : Bool} (h : f25 s = some r) (σ : Store) : f25_tbl 25 [.v (.string (mkS s))] σ = some (.v (.bool r), σ, none) :=
  tbl_eq (x := (s)) (fun x y e => by
    exact av_str (List.cons.inj e).1) (by simp [h]) σ
end Go.Bx.Scan

/- sibyl/sibylref04.Name, printed by pf.py. (Own text.) -/
namespace Go.Bx.Scan
set_option linter.unusedVariables false
set_option linter.unusedSimpArgs false
set_option linter.unusedSectionVars false
open Go.Proofs
set_option linter.unusedSimpArgs false
set_option linter.unusedVariables false
set_option maxRecDepth 10000
/-- sibyl/sibylref04.Name -/
def f15 (s : Str) : Option (Bool) :=
  (f25 s >>= fun r2 =>
  if r2 = true then
    (some (decide ((s.length : Int) ≤ 32)))
  else
    some false : Option (Bool)) >>= fun o1 =>
  some o1

noncomputable def f15_ci : CI := (CI.or 25 f25_tbl (fun _ _ _ => none))
theorem f15_ci_ok (base : Nat) : CIOK E base f15_ci := (or_ok f25_tbl_ok no_ok)
theorem f15_res : Try.f15.results = #[.tmp 2] := rfl
theorem f15_rt : Try.f15.resultTypes = #[4] := rfl

set_option maxHeartbeats 4000000 in
theorem f15_ok (s : Str) (r : Bool) (h : f15 s = some r) : PureOK E 15 [.v (.string (mkS s))] (.v (.bool r)) := by
  unfold f15 at h
  refine pure_of_wp tabOK mixed (fn := Try.f15) (nt := 10) Try.func15 rfl rfl (names _ _ Try.func15) rfl rfl (fun _ => rfl) (fun base c00 hU => ?_)
  refine Wk.wp (s2 := ⟨.v (.string (mkS s)) :: jj 9 [], St [], none, 0⟩) ?_ ?_
  · refine Wk.weak hU [] _ (by decide) .nil ?_
    simp only [jjs, List.length_cons, List.length_nil, Nat.reduceAdd, Nat.reduceSub, List.replicate, List.cons_append, List.nil_append]
    repeat' (first | exact WVs.nil | refine WVs.cons ?_ ?_)
    all_goals first | exact WV.junk _ | exact WV.keep rfl | exact .agg rfl (aggKeep rfl)
  refine Wp.seq <| Wp.region hU (f15_ci_ok _) rgI <| thenN <| ?_
  obtain ⟨o1, ho1, h⟩ := bind_some h
  refine Wp.seq1 (JP := (fun ex s1 => ex = .nrm ∧ Wk base c00 nilStore s1 ⟨jj 2 (.v (.bool o1) :: jj 7 []), St [], none, 0⟩)) ?_ (fun ex s1 hp => ?_)
  · replace h := ho1
    obtain ⟨r2, hr2, h⟩ := bind_some h
    have hr2c : ∀ σ, f15_ci 25 [.v (.string (mkS s))] σ = some (.v (.bool r2), σ, none) := fun σ => f25_call hr2 σ
    rcases Bool.eq_false_or_eq_true (r2) with hg3 | hg3
    · rw [if_t hg3] at h
      have fx := i2 hr2c hg3
      refine Wp.region hU (f15_ci_ok _) rgIF <| ?_
      obtain rfl := Option.some.inj h
      refine ⟨rfl, ?_⟩
      refine Wk.weak hU [] _ (by decide) ?_ ?_
      · exact .nil
      · exact wvI
    · rw [if_f hg3] at h
      have fx := i2 hr2c hg3
      refine Wp.region hU (f15_ci_ok _) rgIF <| ?_
      obtain rfl := Option.some.inj h
      refine ⟨rfl, ?_⟩
      refine Wk.weak hU [] _ (by decide) ?_ ?_
      · exact .nil
      · exact wvI
  · obtain ⟨rfl, hp⟩ := hp
    refine thenN (hp.wp ?_)
    refine Wp.ret <| ?_
    obtain rfl := Option.some.inj h
    refine ⟨.inl rfl, ?_⟩
    refine Rt.of <| ?_
    have fx := i2 f15_res f15_rt
    exact rtI

noncomputable def f15_tbl : CI := tbl 15 (fun p : Str => [.v (.string (mkS p))]) (fun p => (f15 p).map fun r => .v (.bool r))
theorem f15_tbl_ok {base : Nat} : CIOK E base f15_tbl := tbl_ok fun p r h => by obtain ⟨q, hq, rfl⟩ := Option.map_eq_some_iff.1 h; exact f15_ok p q hq
theorem f15_call {s : Str} {r : Bool} (h : f15 s = some r) (σ : Store) : f15_tbl 15 [.v (.string (mkS s))] σ = some (.v (.bool r), σ, none) :=
  tbl_eq (x := (s)) (fun x y e => by
    exact av_str (List.cons.inj e).1) (by simp [h]) σ
end Go.Bx.Scan

/- strings.IndexByte: off the shelf. (Own text.) -/
namespace Go.Bx.Scan
set_option linter.unusedVariables false
set_option linter.unusedSimpArgs false
set_option linter.unusedSectionVars false
open Go.Proofs Go.RowKit
set_option linter.unusedVariables false

/-- strings.IndexByte -/
def f19 (s : Str) (c : Int) : Option Int := some (Lib.indexByte s c.toNat.toUInt8)
theorem f19_ok (s : Str) (c : Int) (r : Int) (h : f19 s c = some r) : PureOK E 19 [.v (.string (mkS s)), .v (.int .u8 c)] (.v (.int .i64 r)) := by
  obtain rfl := Option.some.inj h
  refine pure_below (vs := [.string (mkS s), .int .u8 c]) Try.func19 rfl (names _ _ Try.func19) (fun w => ?_)
  refine (Try.strings_IndexByte (mkS s) c w).mono ?_
  rintro e w' ⟨rfl, rfl⟩
  exact ⟨rfl, Below.refl _ _⟩
end Go.Bx.Scan

/- strings.IndexByte, printed by pf.py. (Own text.) -/
namespace Go.Bx.Scan
set_option linter.unusedVariables false
set_option linter.unusedSimpArgs false
set_option linter.unusedSectionVars false
open Go.Proofs
set_option linter.unusedSimpArgs false
set_option linter.unusedVariables false
set_option maxRecDepth 10000
-- theorem f19_ok (s : Str) (c : Int) (r : Int) (h : f19 s c = some r) : PureOK E 19 [.v (.string (mkS s)), .v (.int .u8 c)] (.v (.int .i64 r))
noncomputable def f19_tbl : CI := tbl 19 (fun p : Str × Int => [.v (.string (mkS p.1)), .v (.int .u8 p.2)]) (fun p => (f19 p.1 p.2).map fun r => .v (.int .i64 r))
theorem f19_tbl_ok {base : Nat} : CIOK E base f19_tbl := tbl_ok fun p r h => by obtain ⟨q, hq, rfl⟩ := Option.map_eq_some_iff.1 h; exact f19_ok p.1 p.2 q hq
theorem f19_call {s : Str} {c : Int} {r : Int} (h : f19 s c = some r) (σ : Store) : f19_tbl 19 [.v (.string (mkS s)), .v (.int .u8 c)] σ = some (.v (.int .i64 r), σ, none) :=
  tbl_eq (x := (s, c)) (fun x y e => by
    obtain ⟨x0, x1⟩ := x; obtain ⟨y0, y1⟩ := y
    have e0 := av_str (List.cons.inj e).1
    have e1 := av_int (List.cons.inj (List.cons.inj e).2).1
    subst e0 e1; rfl) (by simp [h]) σ
end Go.Bx.Scan

/- sibyl/scan.begins, printed by pf.py. (Own text.) -/
namespace Go.Bx.Scan
set_option linter.unusedVariables false
set_option linter.unusedSimpArgs false
set_option linter.unusedSectionVars false
open Go.Proofs
set_option linter.unusedSimpArgs false
set_option linter.unusedVariables false
set_option maxRecDepth 10000
/-- sibyl/scan.begins -/
def f37 (c : Int) : Option (Bool) :=
  (if (decide (c ≥ 97)) = true then
    (if (decide (c ≤ 122)) = true then
      (some true)
    else
      if (decide (c ≥ 65)) = true then
        (if (decide (c ≤ 90)) = true then
          (some true)
        else
          f19 [33, 36, 37, 38, 42, 47, 58, 60, 61, 62, 63, 94, 95, 126] c >>= fun r2 =>
          some (decide (r2 ≥ 0)))
      else
        f19 [33, 36, 37, 38, 42, 47, 58, 60, 61, 62, 63, 94, 95, 126] c >>= fun r2 =>
        some (decide (r2 ≥ 0)))
  else
    if (decide (c ≥ 65)) = true then
      (if (decide (c ≤ 90)) = true then
        (some true)
      else
        f19 [33, 36, 37, 38, 42, 47, 58, 60, 61, 62, 63, 94, 95, 126] c >>= fun r2 =>
        some (decide (r2 ≥ 0)))
    else
      f19 [33, 36, 37, 38, 42, 47, 58, 60, 61, 62, 63, 94, 95, 126] c >>= fun r2 =>
      some (decide (r2 ≥ 0)) : Option (Bool)) >>= fun o1 =>
  some o1

noncomputable def f37_ci : CI := (CI.or 19 f19_tbl (fun _ _ _ => none))
theorem f37_ci_ok (base : Nat) : CIOK E base f37_ci := (or_ok f19_tbl_ok no_ok)
theorem f37_res : Try.f37.results = #[.tmp 2] := rfl
theorem f37_rt : Try.f37.resultTypes = #[4] := rfl

set_option maxHeartbeats 4000000 in
theorem f37_ok (c : Int) (r : Bool) (h : f37 c = some r) : PureOK E 37 [.v (.int .u8 c)] (.v (.bool r)) := by
  unfold f37 at h
  refine pure_of_wp tabOK mixed (fn := Try.f37) (nt := 22) Try.func37 rfl rfl (names _ _ Try.func37) rfl rfl (fun _ => rfl) (fun base c00 hU => ?_)
  refine Wk.wp (s2 := ⟨.v (.int .u8 c) :: jj 21 [], St [], none, 0⟩) ?_ ?_
  · refine Wk.weak hU [] _ (by decide) .nil ?_
    simp only [jjs, List.length_cons, List.length_nil, Nat.reduceAdd, Nat.reduceSub, List.replicate, List.cons_append, List.nil_append]
    repeat' (first | exact WVs.nil | refine WVs.cons ?_ ?_)
    all_goals first | exact WV.junk _ | exact WV.keep rfl | exact .agg rfl (aggKeep rfl)
  refine Wp.seq <| Wp.region hU (f37_ci_ok _) rgI <| thenN <| ?_
  obtain ⟨o1, ho1, h⟩ := bind_some h
  refine Wp.seq1 (JP := (fun ex s1 => ex = .nrm ∧ Wk base c00 nilStore s1 ⟨jj 2 (.v (.bool o1) :: jj 19 []), St [], none, 0⟩)) ?_ (fun ex s1 hp => ?_)
  · replace h := ho1
    rcases Bool.eq_false_or_eq_true (decide (c ≥ 97)) with hg13 | hg13
    · rw [if_t hg13] at h
      rcases Bool.eq_false_or_eq_true (decide (c ≤ 122)) with hg14 | hg14
      · rw [if_t hg14] at h
        have fx := i2 hg13 hg14
        refine Wp.region hU (f37_ci_ok _) rgIF <| ?_
        obtain rfl := Option.some.inj h
        refine ⟨rfl, ?_⟩
        refine Wk.weak hU [] _ (by decide) ?_ ?_
        · exact .nil
        · exact wvI
      · rw [if_f hg14] at h
        rcases Bool.eq_false_or_eq_true (decide (c ≥ 65)) with hg15 | hg15
        · rw [if_t hg15] at h
          rcases Bool.eq_false_or_eq_true (decide (c ≤ 90)) with hg16 | hg16
          · rw [if_t hg16] at h
            have fx := i4 hg13 hg14 hg15 hg16
            refine Wp.region hU (f37_ci_ok _) rgIF <| ?_
            obtain rfl := Option.some.inj h
            refine ⟨rfl, ?_⟩
            refine Wk.weak hU [] _ (by decide) ?_ ?_
            · exact .nil
            · exact wvI
          · rw [if_f hg16] at h
            obtain ⟨r2, hr2, h⟩ := bind_some h
            have hr2c : ∀ σ, f37_ci 19 [.v (.string (mkS [33, 36, 37, 38, 42, 47, 58, 60, 61, 62, 63, 94, 95, 126])), .v (.int .u8 c)] σ = some (.v (.int .i64 r2), σ, none) := fun σ => f19_call hr2 σ
            try simp only [List.map_cons, List.map_nil, cInt_eq, cBool_eq, cStr_eq, cSl_eq, tys] at hr2c
            have fx := i5 hr2c hg13 hg14 hg15 hg16
            refine Wp.region hU (f37_ci_ok _) rgIF <| ?_
            obtain rfl := Option.some.inj h
            refine ⟨rfl, ?_⟩
            refine Wk.weak hU [] _ (by decide) ?_ ?_
            · exact .nil
            · exact wvI
        · rw [if_f hg15] at h
          obtain ⟨r2, hr2, h⟩ := bind_some h
          have hr2c : ∀ σ, f37_ci 19 [.v (.string (mkS [33, 36, 37, 38, 42, 47, 58, 60, 61, 62, 63, 94, 95, 126])), .v (.int .u8 c)] σ = some (.v (.int .i64 r2), σ, none) := fun σ => f19_call hr2 σ
          try simp only [List.map_cons, List.map_nil, cInt_eq, cBool_eq, cStr_eq, cSl_eq, tys] at hr2c
          have fx := i4 hr2c hg13 hg14 hg15
          refine Wp.region hU (f37_ci_ok _) rgIF <| ?_
          obtain rfl := Option.some.inj h
          refine ⟨rfl, ?_⟩
          refine Wk.weak hU [] _ (by decide) ?_ ?_
          · exact .nil
          · exact wvI
    · rw [if_f hg13] at h
      rcases Bool.eq_false_or_eq_true (decide (c ≥ 65)) with hg17 | hg17
      · rw [if_t hg17] at h
        rcases Bool.eq_false_or_eq_true (decide (c ≤ 90)) with hg18 | hg18
        · rw [if_t hg18] at h
          have fx := i3 hg13 hg17 hg18
          refine Wp.region hU (f37_ci_ok _) rgIF <| ?_
          obtain rfl := Option.some.inj h
          refine ⟨rfl, ?_⟩
          refine Wk.weak hU [] _ (by decide) ?_ ?_
          · exact .nil
          · exact wvI
        · rw [if_f hg18] at h
          obtain ⟨r2, hr2, h⟩ := bind_some h
          have hr2c : ∀ σ, f37_ci 19 [.v (.string (mkS [33, 36, 37, 38, 42, 47, 58, 60, 61, 62, 63, 94, 95, 126])), .v (.int .u8 c)] σ = some (.v (.int .i64 r2), σ, none) := fun σ => f19_call hr2 σ
          try simp only [List.map_cons, List.map_nil, cInt_eq, cBool_eq, cStr_eq, cSl_eq, tys] at hr2c
          have fx := i4 hr2c hg13 hg17 hg18
          refine Wp.region hU (f37_ci_ok _) rgIF <| ?_
          obtain rfl := Option.some.inj h
          refine ⟨rfl, ?_⟩
          refine Wk.weak hU [] _ (by decide) ?_ ?_
          · exact .nil
          · exact wvI
      · rw [if_f hg17] at h
        obtain ⟨r2, hr2, h⟩ := bind_some h
        have hr2c : ∀ σ, f37_ci 19 [.v (.string (mkS [33, 36, 37, 38, 42, 47, 58, 60, 61, 62, 63, 94, 95, 126])), .v (.int .u8 c)] σ = some (.v (.int .i64 r2), σ, none) := fun σ => f19_call hr2 σ
        try simp only [List.map_cons, List.map_nil, cInt_eq, cBool_eq, cStr_eq, cSl_eq, tys] at hr2c
        have fx := i3 hr2c hg13 hg17
        refine Wp.region hU (f37_ci_ok _) rgIF <| ?_
        obtain rfl := Option.some.inj h
        refine ⟨rfl, ?_⟩
        refine Wk.weak hU [] _ (by decide) ?_ ?_
        · exact .nil
        · exact wvI
  · obtain ⟨rfl, hp⟩ := hp
    refine thenN (hp.wp ?_)
    refine Wp.ret <| ?_
    obtain rfl := Option.some.inj h
    refine ⟨.inl rfl, ?_⟩
    refine Rt.of <| ?_
    have fx := i2 f37_res f37_rt
    exact rtI

noncomputable def f37_tbl : CI := tbl 37 (fun p : Int => [.v (.int .u8 p)]) (fun p => (f37 p).map fun r => .v (.bool r))
theorem f37_tbl_ok {base : Nat} : CIOK E base f37_tbl := tbl_ok fun p r h => by obtain ⟨q, hq, rfl⟩ := Option.map_eq_some_iff.1 h; exact f37_ok p q hq
theorem f37_call {c : Int} {r : Bool} (h : f37 c = some r) (σ : Store) : f37_tbl 37 [.v (.int .u8 c)] σ = some (.v (.bool r), σ, none) :=
  tbl_eq (x := (c)) (fun x y e => by
    exact av_int (List.cons.inj e).1) (by simp [h]) σ
end Go.Bx.Scan

/- sibyl/scan.sign, printed by pf.py. (Own text.) -/
namespace Go.Bx.Scan
set_option linter.unusedVariables false
set_option linter.unusedSimpArgs false
set_option linter.unusedSectionVars false
open Go.Proofs
set_option linter.unusedSimpArgs false
set_option linter.unusedVariables false
set_option maxRecDepth 10000
/-- sibyl/scan.sign -/
def f18 (c : Int) : Option (Int) :=
  f19 [40, 41, 39] c >>= fun r1 =>
  some (IntKind.i64.wrap (1 + r1))

noncomputable def f18_ci : CI := (CI.or 19 f19_tbl (fun _ _ _ => none))
theorem f18_ci_ok (base : Nat) : CIOK E base f18_ci := (or_ok f19_tbl_ok no_ok)
theorem f18_res : Try.f18.results = #[.tmp 2] := rfl
theorem f18_rt : Try.f18.resultTypes = #[3] := rfl

set_option maxHeartbeats 4000000 in
theorem f18_ok (c : Int) (r : Int) (h : f18 c = some r) : PureOK E 18 [.v (.int .u8 c)] (.v (.int .i64 r)) := by
  unfold f18 at h
  refine pure_of_wp tabOK mixed (fn := Try.f18) (nt := 6) Try.func18 rfl rfl (names _ _ Try.func18) rfl rfl (fun _ => rfl) (fun base c00 hU => ?_)
  refine Wk.wp (s2 := ⟨.v (.int .u8 c) :: jj 5 [], St [], none, 0⟩) ?_ ?_
  · refine Wk.weak hU [] _ (by decide) .nil ?_
    simp only [jjs, List.length_cons, List.length_nil, Nat.reduceAdd, Nat.reduceSub, List.replicate, List.cons_append, List.nil_append]
    repeat' (first | exact WVs.nil | refine WVs.cons ?_ ?_)
    all_goals first | exact WV.junk _ | exact WV.keep rfl | exact .agg rfl (aggKeep rfl)
  refine Wp.seq <| Wp.region hU (f18_ci_ok _) rgI <| thenN <| Wp.seq <| ?_
  obtain ⟨r1, hr1, h⟩ := bind_some h
  have hr1c : ∀ σ, f18_ci 19 [.v (.string (mkS [40, 41, 39])), .v (.int .u8 c)] σ = some (.v (.int .i64 r1), σ, none) := fun σ => f19_call hr1 σ
  try simp only [List.map_cons, List.map_nil, cInt_eq, cBool_eq, cStr_eq, cSl_eq, tys] at hr1c
  have fx := hr1c
  refine Wp.region hU (f18_ci_ok _) rgIF <| thenN <| Wp.ret <| ?_
  obtain rfl := Option.some.inj h
  refine ⟨.inl rfl, ?_⟩
  refine Rt.of <| ?_
  have fx := i2 f18_res f18_rt
  exact rtI

noncomputable def f18_tbl : CI := tbl 18 (fun p : Int => [.v (.int .u8 p)]) (fun p => (f18 p).map fun r => .v (.int .i64 r))
theorem f18_tbl_ok {base : Nat} : CIOK E base f18_tbl := tbl_ok fun p r h => by obtain ⟨q, hq, rfl⟩ := Option.map_eq_some_iff.1 h; exact f18_ok p q hq
theorem f18_call {c : Int} {r : Int} (h : f18 c = some r) (σ : Store) : f18_tbl 18 [.v (.int .u8 c)] σ = some (.v (.int .i64 r), σ, none) :=
  tbl_eq (x := (c)) (fun x y e => by
    exact av_int (List.cons.inj e).1) (by simp [h]) σ
end Go.Bx.Scan

/- sibyl/scan.shaped, printed by pf.py. (Own text.) -/
namespace Go.Bx.Scan
set_option linter.unusedVariables false
set_option linter.unusedSimpArgs false
set_option linter.unusedSectionVars false
open Go.Proofs
set_option linter.unusedSimpArgs false
set_option linter.unusedVariables false
set_option maxRecDepth 10000
def f24_l0 (s : Str) (i : Int) : Option (Ou Bool Unit) :=
  if (decide (i < (s.length : Int))) = true then
    ((bt s i >>= fun b8 =>
    f37 b8 >>= fun r9 =>
    if (!r9) = true then
      (f19 [48, 49, 50, 51, 52, 53, 54, 55, 56, 57, 43, 45, 46, 64] b8 >>= fun r10 =>
      if (decide (r10 < 0)) = true then
        (some (.ret false))
      else
        some (.nxt ()))
    else
      some (.nxt ()) : Option (Ou Bool Unit)) >>= fun o7 => match o7 with
    | .ret r0 => some (.ret r0)
    | .nxt wo7 =>
      f24_l0 s (IntKind.i64.wrap (i + 1)))
  else
    some (.nxt ())
  partial_fixpoint

/-- sibyl/scan.shaped -/
def f24 (s : Str) : Option (Bool) :=
  if (s == [43]) = true then
    (some true)
  else
    if (s == [45]) = true then
      (some true)
    else
      if (s == []) = true then
        (some false)
      else
        bt s 0 >>= fun b2 =>
        f37 b2 >>= fun r3 =>
        if (!r3) = true then
          (some false)
        else
          f24_l0 s 1 >>= fun o5 => match o5 with
          | .ret r0 => some r0
          | .nxt wo5 =>
            some true

noncomputable def f24_ci : CI := (CI.or 37 f37_tbl (CI.or 19 f19_tbl (fun _ _ _ => none)))
theorem f24_ci_ok (base : Nat) : CIOK E base f24_ci := (or_ok f37_tbl_ok (or_ok f19_tbl_ok no_ok))
theorem f24_res : Try.f24.results = #[.tmp 2] := rfl
theorem f24_rt : Try.f24.resultTypes = #[4] := rfl

set_option maxHeartbeats 4000000 in
theorem f24_l0_ok {base : Nat} {c00 : Ctx} (s : Str) (hU : Under E base c00 nilStore) : ∀ (i : Int) (o5 : Ou Bool Unit), f24_l0 s i = some o5 →
    WpL E base c00 nilStore (lb Try.f24 0) ⟨.v (.string (mkS s)) :: jj 2 (.v (.int .i64 i) :: jj 32 []), St [], none, 0⟩ (fun ex s1 => match o5 with | .ret r0 => ex = .ret ∧ Rt E base c00 Try.f24 (.v (.bool r0)) s1 | .nxt wo5 => ex = .exit 0 ∧ Wk base c00 nilStore s1 ⟨jj 36 [], St [], none, 0⟩) := by
  refine f24_l0.partial_correctness s _ ?_
  intro lp__ ih i o5 h
  refine WpL.stepE (by simp only [Try.f24, lb, Option.getD_some, loopsOf, List.nil_append, List.append_nil, List.cons_append, List.getElem?_cons_zero, List.getElem?_cons_succ] <;> rfl) ?_
  refine Wp.seq <| Wp.seq <| Wp.region hU (f24_ci_ok _) rgI <| thenN <| ?_
  refine Wp.cond hU (t := decide (i < (s.length : Int))) rfl (fun hc6 => ?_) (fun hc6 => ?_)
  · rw [if_t hc6] at h
    refine Wp.skip <| thenN <| ?_
    obtain ⟨o7, ho7, h⟩ := bind_some h
    refine Wp.seq1 (JP := (fun ex s1 => match o7 with | .ret r0 => ex = .ret ∧ Rt E base c00 Try.f24 (.v (.bool r0)) s1 | .nxt wo7 => ex = .nrm ∧ Wk base c00 nilStore s1 ⟨.v (.string (mkS s)) :: jj 2 (.v (.int .i64 i) :: jj 32 []), St [], none, 0⟩)) ?_ (fun ex s1 hp => ?_)
    · replace h := ho7
      refine Wp.block <| Wp.seq <| ?_
      obtain ⟨b8, hb8, h⟩ := bind_some h
      obtain ⟨r9, hr9, h⟩ := bind_some h
      have hr9c : ∀ σ, f24_ci 37 [.v (.int .u8 b8)] σ = some (.v (.bool r9), σ, none) := fun σ => f37_call hr9 σ
      rcases Bool.eq_false_or_eq_true (!r9) with hg28 | hg28
      · rw [if_t hg28] at h
        obtain ⟨r10, hr10, h⟩ := bind_some h
        have hr10c : ∀ σ, f24_ci 19 [.v (.string (mkS [48, 49, 50, 51, 52, 53, 54, 55, 56, 57, 43, 45, 46, 64])), .v (.int .u8 b8)] σ = some (.v (.int .i64 r10), σ, none) := fun σ => f19_call hr10 σ
        try simp only [List.map_cons, List.map_nil, cInt_eq, cBool_eq, cStr_eq, cSl_eq, tys] at hr10c
        have fx := i5 hb8 hr9c hr10c hc6 hg28
        refine Wp.region hU (f24_ci_ok _) rgIF <| thenN <| ?_
        refine Wp.cond hU (t := decide (r10 < 0)) rfl (fun hc11 => ?_) (fun hc11 => ?_)
        · rw [if_t hc11] at h
          refine Wp.seq <| ?_
          have fx := i3 hc6 hg28 hc11
          refine Wp.region hU (f24_ci_ok _) rgIF <| thenN <| Wp.ret <| blkR <| ?_
          obtain rfl := Option.some.inj h
          refine ⟨rfl, ?_⟩
          refine Rt.of <| ?_
          have fx := i2 f24_res f24_rt
          exact rtI
        · rw [if_f hc11] at h
          refine Wp.skip <| blkN <| ?_
          obtain rfl := Option.some.inj h
          refine ⟨rfl, ?_⟩
          refine Wk.weak hU [] _ (by decide) ?_ ?_
          · exact .nil
          · exact wvI
      · rw [if_f hg28] at h
        have fx := i4 hb8 hr9c hc6 hg28
        refine Wp.region hU (f24_ci_ok _) rgIF <| thenN <| ?_
        refine Wp.cond hU (t := false) rfl (fun hc => by cases hc) (fun _ => ?_)
        refine Wp.skip <| blkN <| ?_
        obtain rfl := Option.some.inj h
        refine ⟨rfl, ?_⟩
        refine Wk.weak hU [] _ (by decide) ?_ ?_
        · exact .nil
        · exact wvI
    · cases o7 with
      | ret r0 =>
        obtain ⟨rfl, hp⟩ := hp
        obtain rfl := Option.some.inj h
        refine thenR <| againR <| ?_
        exact ⟨rfl, hp⟩
      | nxt wo7 =>
        obtain ⟨rfl, hp⟩ := hp
        dsimp only at h
        refine thenN (hp.wp ?_)
        have fx := hc6
        refine Wp.region hU (f24_ci_ok _) rgIF <| againN <| ?_
        refine Wk.wpL ?_ (ih (IntKind.i64.wrap (i + 1)) _ h)
        refine Wk.weak hU [] _ (by decide) ?_ ?_
        · exact .nil
        · exact wvI
  · rw [if_f hc6] at h
    refine Wp.exit <| thenE <| againE <| ?_
    obtain rfl := Option.some.inj h
    refine ⟨rfl, ?_⟩
    refine Wk.weak hU [] _ (by decide) ?_ ?_
    · exact .nil
    · exact wvI

set_option maxHeartbeats 4000000 in
theorem f24_ok (s : Str) (r : Bool) (h : f24 s = some r) : PureOK E 24 [.v (.string (mkS s))] (.v (.bool r)) := by
  unfold f24 at h
  refine pure_of_wp tabOK mixed (fn := Try.f24) (nt := 36) Try.func24 rfl rfl (names _ _ Try.func24) rfl rfl (fun _ => rfl) (fun base c00 hU => ?_)
  refine Wk.wp (s2 := ⟨.v (.string (mkS s)) :: jj 35 [], St [], none, 0⟩) ?_ ?_
  · refine Wk.weak hU [] _ (by decide) .nil ?_
    simp only [jjs, List.length_cons, List.length_nil, Nat.reduceAdd, Nat.reduceSub, List.replicate, List.cons_append, List.nil_append]
    repeat' (first | exact WVs.nil | refine WVs.cons ?_ ?_)
    all_goals first | exact WV.junk _ | exact WV.keep rfl | exact .agg rfl (aggKeep rfl)
  refine Wp.seq <| Wp.region hU (f24_ci_ok _) rgI <| thenN <| Wp.seq <| Wp.seq <| ?_
  rcases Bool.eq_false_or_eq_true (s == [43]) with hg16 | hg16
  · rw [if_t hg16] at h
    have fx := hg16
    refine Wp.region hU (f24_ci_ok _) rgIF <| thenN <| ?_
    refine Wp.cond hU (t := true) rfl (fun _ => ?_) (fun hc => by cases hc)
    refine Wp.seq <| Wp.region hU (f24_ci_ok _) rgIF <| thenN <| Wp.ret <| thenR <| ?_
    obtain rfl := Option.some.inj h
    refine ⟨.inl rfl, ?_⟩
    refine Rt.of <| ?_
    have fx := i2 f24_res f24_rt
    exact rtI
  · rw [if_f hg16] at h
    have fx := hg16
    refine Wp.region hU (f24_ci_ok _) rgIF <| thenN <| ?_
    refine Wp.cond hU (t := s == [45]) rfl (fun hc1 => ?_) (fun hc1 => ?_)
    · rw [if_t hc1] at h
      refine Wp.seq <| ?_
      have fx := i2 hg16 hc1
      refine Wp.region hU (f24_ci_ok _) rgIF <| thenN <| Wp.ret <| thenR <| ?_
      obtain rfl := Option.some.inj h
      refine ⟨.inl rfl, ?_⟩
      refine Rt.of <| ?_
      have fx := i2 f24_res f24_rt
      exact rtI
    · rw [if_f hc1] at h
      refine Wp.skip <| thenN <| Wp.seq <| Wp.seq <| ?_
      rcases Bool.eq_false_or_eq_true (s == []) with hg20 | hg20
      · rw [if_t hg20] at h
        have fx := i3 hg16 hc1 hg20
        refine Wp.region hU (f24_ci_ok _) rgIF <| thenN <| ?_
        refine Wp.cond hU (t := true) rfl (fun _ => ?_) (fun hc => by cases hc)
        refine Wp.seq <| Wp.region hU (f24_ci_ok _) rgIF <| thenN <| Wp.ret <| thenR <| ?_
        obtain rfl := Option.some.inj h
        refine ⟨.inl rfl, ?_⟩
        refine Rt.of <| ?_
        have fx := i2 f24_res f24_rt
        exact rtI
      · rw [if_f hg20] at h
        obtain ⟨b2, hb2, h⟩ := bind_some h
        obtain ⟨r3, hr3, h⟩ := bind_some h
        have hr3c : ∀ σ, f24_ci 37 [.v (.int .u8 b2)] σ = some (.v (.bool r3), σ, none) := fun σ => f37_call hr3 σ
        have fx := i5 hb2 hr3c hg16 hc1 hg20
        refine Wp.region hU (f24_ci_ok _) rgIF <| thenN <| ?_
        refine Wp.cond hU (t := !r3) rfl (fun hc4 => ?_) (fun hc4 => ?_)
        · rw [if_t hc4] at h
          refine Wp.seq <| ?_
          have fx := i4 hg16 hc1 hg20 hc4
          refine Wp.region hU (f24_ci_ok _) rgIF <| thenN <| Wp.ret <| thenR <| ?_
          obtain rfl := Option.some.inj h
          refine ⟨.inl rfl, ?_⟩
          refine Rt.of <| ?_
          have fx := i2 f24_res f24_rt
          exact rtI
        · rw [if_f hc4] at h
          refine Wp.skip <| thenN <| Wp.seq <| Wp.seq <| ?_
          have fx := i4 hg16 hc1 hg20 hc4
          refine Wp.region hU (f24_ci_ok _) rgIF <| thenN <| Wp.block <| ?_
          obtain ⟨o5, ho5, h⟩ := bind_some h
          refine Wp.loop <| ?_
          refine Tw.mono (Wk.wpL (s2 := ⟨.v (.string (mkS s)) :: jj 2 (.v (.int .i64 1) :: jj 32 []), St [], none, 0⟩) ?_ (f24_l0_ok s hU 1 o5 ho5)) (fun ex s1 hp => ?_)
          · refine Wk.weak hU [] _ (by decide) ?_ ?_
            · exact .nil
            · exact wvI
          · cases o5 with
            | ret r0 =>
              obtain ⟨rfl, hp⟩ := hp
              obtain rfl := Option.some.inj h
              refine blkR <| thenR <| ?_
              exact ⟨.inl rfl, hp⟩
            | nxt wo5 =>
              obtain ⟨rfl, hp⟩ := hp
              dsimp only at h
              refine blkE <| thenN <| hp.wp <| Wp.seq <| Wp.region hU (f24_ci_ok _) rgIF <| thenN <| Wp.ret <| ?_
              obtain rfl := Option.some.inj h
              refine ⟨.inl rfl, ?_⟩
              refine Rt.of <| ?_
              have fx := i2 f24_res f24_rt
              exact rtI

noncomputable def f24_tbl : CI := tbl 24 (fun p : Str => [.v (.string (mkS p))]) (fun p => (f24 p).map fun r => .v (.bool r))
theorem f24_tbl_ok {base : Nat} : CIOK E base f24_tbl := tbl_ok fun p r h => by obtain ⟨q, hq, rfl⟩ := Option.map_eq_some_iff.1 h; exact f24_ok p q hq
theorem f24_call {s : Str} {r : Bool} (h : f24 s = some r) (σ : Store) : f24_tbl 24 [.v (.string (mkS s))] σ = some (.v (.bool r), σ, none) :=
  tbl_eq (x := (s)) (fun x y e => by
    exact av_str (List.cons.inj e).1) (by simp [h]) σ
end Go.Bx.Scan

/- sibyl/scan.Name, printed by pf.py. (Own text.) -/
namespace Go.Bx.Scan
set_option linter.unusedVariables false
set_option linter.unusedSimpArgs false
set_option linter.unusedSectionVars false
open Go.Proofs
set_option linter.unusedSimpArgs false
set_option linter.unusedVariables false
set_option maxRecDepth 10000
/-- sibyl/scan.Name -/
def f14 (s : Str) : Option (Bool) :=
  (if (decide ((s.length : Int) ≤ 32)) = true then
    (f24 s >>= fun r2 =>
    some r2)
  else
    some false : Option (Bool)) >>= fun o1 =>
  some o1

noncomputable def f14_ci : CI := (CI.or 24 f24_tbl (fun _ _ _ => none))
theorem f14_ci_ok (base : Nat) : CIOK E base f14_ci := (or_ok f24_tbl_ok no_ok)
theorem f14_res : Try.f14.results = #[.tmp 2] := rfl
theorem f14_rt : Try.f14.resultTypes = #[4] := rfl

set_option maxHeartbeats 4000000 in
theorem f14_ok (s : Str) (r : Bool) (h : f14 s = some r) : PureOK E 14 [.v (.string (mkS s))] (.v (.bool r)) := by
  unfold f14 at h
  refine pure_of_wp tabOK mixed (fn := Try.f14) (nt := 10) Try.func14 rfl rfl (names _ _ Try.func14) rfl rfl (fun _ => rfl) (fun base c00 hU => ?_)
  refine Wk.wp (s2 := ⟨.v (.string (mkS s)) :: jj 9 [], St [], none, 0⟩) ?_ ?_
  · refine Wk.weak hU [] _ (by decide) .nil ?_
    simp only [jjs, List.length_cons, List.length_nil, Nat.reduceAdd, Nat.reduceSub, List.replicate, List.cons_append, List.nil_append]
    repeat' (first | exact WVs.nil | refine WVs.cons ?_ ?_)
    all_goals first | exact WV.junk _ | exact WV.keep rfl | exact .agg rfl (aggKeep rfl)
  refine Wp.seq <| Wp.region hU (f14_ci_ok _) rgI <| thenN <| ?_
  obtain ⟨o1, ho1, h⟩ := bind_some h
  refine Wp.seq1 (JP := (fun ex s1 => ex = .nrm ∧ Wk base c00 nilStore s1 ⟨jj 2 (.v (.bool o1) :: jj 7 []), St [], none, 0⟩)) ?_ (fun ex s1 hp => ?_)
  · replace h := ho1
    rcases Bool.eq_false_or_eq_true (decide ((s.length : Int) ≤ 32)) with hg3 | hg3
    · rw [if_t hg3] at h
      obtain ⟨r2, hr2, h⟩ := bind_some h
      have hr2c : ∀ σ, f14_ci 24 [.v (.string (mkS s))] σ = some (.v (.bool r2), σ, none) := fun σ => f24_call hr2 σ
      have fx := i2 hr2c hg3
      refine Wp.region hU (f14_ci_ok _) rgIF <| ?_
      obtain rfl := Option.some.inj h
      refine ⟨rfl, ?_⟩
      refine Wk.weak hU [] _ (by decide) ?_ ?_
      · exact .nil
      · exact wvI
    · rw [if_f hg3] at h
      have fx := hg3
      refine Wp.region hU (f14_ci_ok _) rgIF <| ?_
      obtain rfl := Option.some.inj h
      refine ⟨rfl, ?_⟩
      refine Wk.weak hU [] _ (by decide) ?_ ?_
      · exact .nil
      · exact wvI
  · obtain ⟨rfl, hp⟩ := hp
    refine thenN (hp.wp ?_)
    refine Wp.ret <| ?_
    obtain rfl := Option.some.inj h
    refine ⟨.inl rfl, ?_⟩
    refine Rt.of <| ?_
    have fx := i2 f14_res f14_rt
    exact rtI

noncomputable def f14_tbl : CI := tbl 14 (fun p : Str => [.v (.string (mkS p))]) (fun p => (f14 p).map fun r => .v (.bool r))
theorem f14_tbl_ok {base : Nat} : CIOK E base f14_tbl := tbl_ok fun p r h => by obtain ⟨q, hq, rfl⟩ := Option.map_eq_some_iff.1 h; exact f14_ok p q hq
theorem f14_call {s : Str} {r : Bool} (h : f14 s = some r) (σ : Store) : f14_tbl 14 [.v (.string (mkS s))] σ = some (.v (.bool r), σ, none) :=
  tbl_eq (x := (s)) (fun x y e => by
    exact av_str (List.cons.inj e).1) (by simp [h]) σ
end Go.Bx.Scan
