/- What the program's functions compute, shown of their code (L8). Own text; parts are printed by a program of this claim's author. -/
import Derived.Test.YtgnhnfaojpjieaaW5
namespace Go.Bx.Scan
set_option linter.unusedVariables false
set_option linter.unusedSimpArgs false
set_option linter.unusedSectionVars false
open Go.Proofs
set_option linter.unusedSimpArgs false
set_option linter.unusedVariables false
set_option maxRecDepth 10000
set_option maxHeartbeats 4000000
def f8_l0 (a : Str) (i : Int) : Option (Ou Bool Unit) :=
 if (decide (i < (a.length : Int))) = true then
  (bt a i >>= fun b6 =>
  if (b6 == 59) = true then
   (some (.ret true))
  else
   f8_l0 a (IntKind.i64.wrap (i + 1)))
 else
  some (.nxt ())
 partial_fixpoint
def f8_l1 (a : Str) (r8 : (List Token) × Int × Int) (r9 : (List Token) × Int × Int) (r12 : (List Token) × Int × Int) (v : Int) : Option (Ou Bool Unit) :=
 if (decide (v < (r9.1.length : Int))) = true then
  (rd r12.1 (IntKind.i64.wrap ((IntKind.i64.wrap ((r8.1.length : Int) + 1)) + v)) >>= fun e21 =>
  rd r9.1 v >>= fun e22 =>
  if (e21.Text != e22.Text) = true then
   (some (.ret false))
  else
   if (e21.At != (IntKind.i64.wrap ((IntKind.i64.wrap (e22.At + (a.length : Int))) + 1))) = true then
    (some (.ret false))
   else
    f8_l1 a r8 r9 r12 (IntKind.i64.wrap (v + 1)))
 else
  some (.nxt ())
 partial_fixpoint
/-- sibyl/sibyllaw04.ScanPieces -/
def f8 (a : Str) (b : Str) : Option (Bool) :=
 f10 >>= fun r1 =>
 if (!r1) = true then
  (some false)
 else
  if (decide ((IntKind.i64.wrap ((a.length : Int) + 1)) > (IntKind.i64.wrap (4096 - (b.length : Int))))) = true then
   (some true)
  else
   if (decide ((a.length : Int) > 4096)) = true then
    (some true)
   else
    f8_l0 a 0 >>= fun o4 => match o4 with
    | .ret r0 => some r0
    | .nxt wo4 =>
     f11 a >>= fun r8 =>
     f11 b >>= fun r9 =>
     cat a [40] >>= fun s10 =>
     cat s10 b >>= fun s11 =>
     f11 s11 >>= fun r12 =>
     if (r8.2.2 != 0) = true then
      ((if (r12.2.2 == r8.2.2) = true then
       (some (r12.2.1 == r8.2.1))
      else
       some false : Option (Bool)) >>= fun o14 =>
      some o14)
     else
      if (r9.2.2 != 0) = true then
       ((if (r12.2.2 == r9.2.2) = true then
        (some (r12.2.1 == (IntKind.i64.wrap ((IntKind.i64.wrap (r9.2.1 + (a.length : Int))) + 1))))
       else
        some false : Option (Bool)) >>= fun o16 =>
       some o16)
      else
       if (r12.2.2 != 0) = true then
        (some false)
       else
        if ((r12.1.length : Int) != (IntKind.i64.wrap ((IntKind.i64.wrap ((r8.1.length : Int) + 1)) + (r9.1.length : Int)))) = true then
         (some false)
        else
         rd r12.1 (r8.1.length : Int) >>= fun e17 =>
         if (e17.Kind != 1) = true then
          (some false)
         else
          f8_l1 a r8 r9 r12 0 >>= fun o19 => match o19 with
          | .ret r0 => some r0
          | .nxt wo19 =>
           cutL r12.1 0 (r8.1.length : Int) >>= fun p24 =>
           f13 p24 r8.1 >>= fun r25 =>
           some r25
noncomputable def f8_ci : CI := (CI.or 10 f10_tbl (CI.or 11 f11_tbl (CI.or 13 f13_tbl (fun _ _ _ => none))))
theorem f8_ci_ok (base : Nat) : CIOK E base f8_ci := (or_ok f10_tbl_ok (or_ok f11_tbl_ok (or_ok f13_tbl_ok no_ok)))
theorem f8_res : Try.f8.results = #[.tmp 4] := rfl
theorem f8_rt : Try.f8.resultTypes = #[4] := rfl
theorem f8_l0_ok {base : Nat} {c00 : Ctx} (a : Str) (b : Str) (hU : Under E base c00 nilStore) : ∀ (i : Int) (o4 : Ou Bool Unit), f8_l0 a i = some o4 →
  WpL E base c00 nilStore (lb Try.f8 0) ⟨.v (.string (mkS a)) :: .v (.string (mkS b)) :: jj 3 (.v (.int .i64 i) :: jj 149 []), St [], none, 0⟩ (fun ex s1 => match o4 with | .ret r0 => ex = .ret ∧ Rt E base c00 Try.f8 (.v (.bool r0)) s1 | .nxt wo4 => ex = .exit 0 ∧ Wk base c00 nilStore s1 ⟨.v (.string (mkS a)) :: .v (.string (mkS b)) :: jj 153 [], St [], none, 0⟩) := by
 refine f8_l0.partial_correctness a _ ?_
 intro lp__ ih i o4 h
 refine WpL.stepE (lbI Try.f8.eq_1) ?_
 refine Wp.seq <| rs hU (f8_ci_ok _) rgJ <| ?_
 refine Wp.cond hU (t := decide (i < (a.length : Int))) rfl (fun hc5 => ?_) (fun hc5 => ?_)
 ·rw [if_t hc5] at h
  refine Wp.skip <| thenN <| Wp.seq <| Wp.block <| Wp.seq <| ?_
  obtain ⟨b6, hb6, h⟩ := bind_some h
  have fx := i2 hb6 hc5
  refine rq hU (f8_ci_ok _) rgJF <| thenN <| ?_
  refine Wp.cond hU (t := b6 == 59) rfl (fun hc7 => ?_) (fun hc7 => ?_)
  ·rw [if_t hc7] at h
   refine Wp.seq <| ?_
   have fx := i2 hc5 hc7
   refine rq hU (f8_ci_ok _) rgJF <| thenN <| Wp.ret <| blkR <| thenR <| againR <| ?_
   obtain rfl := sj h
   refine ⟨rfl, ?_⟩
   refine Rt.of <| ?_
   have fx := i2 f8_res f8_rt
   exact rtJ
  ·rw [if_f hc7] at h
   refine Wp.skip <| blkN <| thenN <| ?_
   have fx := i2 hc5 hc7
   refine rq hU (f8_ci_ok _) rgJF <| againN <| ?_
   refine Wk.wpL ?_ (ih (IntKind.i64.wrap (i + 1)) _ h)
   exact Wk.weak hU [] _ (by decide) .nil wvJ
 ·rw [if_f hc5] at h
  refine Wp.exit <| thenE <| againE <| ?_
  obtain rfl := sj h
  refine ⟨rfl, ?_⟩
  exact Wk.weak hU [] _ (by decide) .nil wvJ
theorem f8_l1_ok {base : Nat} {c00 : Ctx} (a : Str) (r8 : (List Token) × Int × Int) (r9 : (List Token) × Int × Int) (r12 : (List Token) × Int × Int) (hU : Under E base c00 nilStore) : ∀ (v : Int) (o19 : Ou Bool Unit), f8_l1 a r8 r9 r12 v = some o19 →
  WpL E base c00 nilStore (lb Try.f8 1) ⟨.v (.string (mkS a)) :: jj 5 (.row 0 6 0 ((r8.1).length) :: jj 2 (.row 1 6 0 ((r9.1).length) :: jj 2 (.row 2 6 0 ((r12.1).length) :: jj 95 (.v (.int .i64 (r9.1.length : Int)) :: .v (.int .i64 v) :: jj 45 [])))), St [some ⟨6, false, true, List.map cToken r8.1⟩, some ⟨6, false, true, List.map cToken r9.1⟩, some ⟨6, false, true, List.map cToken r12.1⟩], none, 0⟩ (fun ex s1 => match o19 with | .ret r0 => ex = .ret ∧ Rt E base c00 Try.f8 (.v (.bool r0)) s1 | .nxt wo19 => ex = .exit 2 ∧ Wk base c00 nilStore s1 ⟨jj 6 (.row 0 6 0 ((r8.1).length) :: jj 5 (.row 1 6 0 ((r12.1).length) :: jj 142 [])), St [some ⟨6, false, true, List.map cToken r8.1⟩, some ⟨6, false, true, List.map cToken r12.1⟩], none, 0⟩) := by
 refine f8_l1.partial_correctness a r8 r9 r12 _ ?_
 intro lp__ ih v o19 h
 refine WpL.stepE (lbI Try.f8.eq_1) ?_
 refine rs hU (f8_ci_ok _) rgJ <| Wp.seq <| ?_
 refine Wp.cond hU (t := decide (v < (r9.1.length : Int))) rfl (fun hc20 => ?_) (fun hc20 => ?_)
 ·rw [if_t hc20] at h
  refine Wp.skip <| thenN <| Wp.seq <| Wp.block <| Wp.seq <| ?_
  have fx := hc20
  refine rq hU (f8_ci_ok _) rgJF <| thenN <| Wp.seq <| ?_
  obtain ⟨e21, he21, h⟩ := bind_some h
  obtain ⟨he21a, he21b, he21c⟩ := rd_some he21
  obtain ⟨e22, he22, h⟩ := bind_some h
  obtain ⟨he22a, he22b, he22c⟩ := rd_some he22
  rcases Bool.eq_false_or_eq_true (e21.Text != e22.Text) with hg50 | hg50
  ·rw [if_t hg50] at h
   have fx := i8 he21a he21b he21c he22a he22b he22c hc20 hg50
   refine Wp.regionT hU (f8_ci_ok _) rgJF (by kernel_rfl) <| thenN <| ?_
   refine Wp.cond hU (t := true) rfl (fun _ => ?_) (fun hc => by cases hc)
   refine Wp.seq <| ?_
   have fx := i2 hc20 hg50
   refine rq hU (f8_ci_ok _) rgJF <| thenN <| Wp.ret <| blkR <| thenR <| againR <| ?_
   obtain rfl := sj h
   refine ⟨rfl, ?_⟩
   refine Rt.of <| ?_
   have fx := i2 f8_res f8_rt
   exact rtJ
  ·rw [if_f hg50] at h
   have fx := i8 he21a he21b he21c he22a he22b he22c hc20 hg50
   refine Wp.regionT hU (f8_ci_ok _) rgJF (by kernel_rfl) <| thenN <| ?_
   refine Wp.cond hU (t := e21.At != (IntKind.i64.wrap ((IntKind.i64.wrap (e22.At + (a.length : Int))) + 1))) rfl (fun hc23 => ?_) (fun hc23 => ?_)
   ·rw [if_t hc23] at h
    refine Wp.seq <| ?_
    have fx := i3 hc20 hg50 hc23
    refine rq hU (f8_ci_ok _) rgJF <| thenN <| Wp.ret <| blkR <| thenR <| againR <| ?_
    obtain rfl := sj h
    refine ⟨rfl, ?_⟩
    refine Rt.of <| ?_
    have fx := i2 f8_res f8_rt
    exact rtJ
   ·rw [if_f hc23] at h
    refine Wp.skip <| blkN <| thenN <| ?_
    have fx := i3 hc20 hg50 hc23
    refine rq hU (f8_ci_ok _) rgJF <| againN <| ?_
    refine Wk.wpL ?_ (ih (IntKind.i64.wrap (v + 1)) _ h)
    exact Wk.weak hU [some 0, some 1, some 2] _ (by decide) wsJ wvJ
 ·rw [if_f hc20] at h
  refine Wp.exit <| thenE <| againE <| ?_
  obtain rfl := sj h
  refine ⟨rfl, ?_⟩
  exact Wk.weak hU [some 0, some 2] _ (by decide) wsJ wvJ
theorem f8_ok (a : Str) (b : Str) (r : Bool) (h : f8 a b = some r) : PureOK E 8 [.v (.string (mkS a)), .v (.string (mkS b))] (.v (.bool r)) := by
 unfold f8 at h
 refine pof (fn := Try.f8) (nt := 155) Try.func8 rfl rfl rfl rfl (fun _ => rfl) (fun base c00 hU => ?_)
 refine Wk.wp (s2 := ⟨.v (.string (mkS a)) :: .v (.string (mkS b)) :: jj 153 [], St [], none, 0⟩) ?_ ?_
 ·exact Wk.weak hU [] _ (by decide) .nil wvS
 refine rs hU (f8_ci_ok _) rgJ <| Wp.seq <| Wp.seq <| ?_
 obtain ⟨r1, hr1, h⟩ := bind_some h
 have hr1c := fun σ => show f8_ci 10 _ σ = _ from f10_call hr1 σ
 have fx := hr1c
 refine rq hU (f8_ci_ok _) rgJF <| thenN <| ?_
 refine Wp.cond hU (t := !r1) rfl (fun hc2 => ?_) (fun hc2 => ?_)
 ·rw [if_t hc2] at h
  refine Wp.seq <| ?_
  have fx := hc2
  refine rq hU (f8_ci_ok _) rgJF <| thenN <| Wp.ret <| thenR <| ?_
  obtain rfl := sj h
  refine ⟨.inl rfl, ?_⟩
  refine Rt.of <| ?_
  have fx := i2 f8_res f8_rt
  exact rtJ
 ·rw [if_f hc2] at h
  refine Wp.skip <| thenN <| Wp.seq <| Wp.seq <| ?_
  rcases Bool.eq_false_or_eq_true (decide ((IntKind.i64.wrap ((a.length : Int) + 1)) > (IntKind.i64.wrap (4096 - (b.length : Int))))) with hg26 | hg26
  ·rw [if_t hg26] at h
   have fx := i2 hc2 hg26
   refine rq hU (f8_ci_ok _) rgJF <| thenN <| ?_
   refine Wp.cond hU (t := true) rfl (fun _ => ?_) (fun hc => by cases hc)
   refine rs hU (f8_ci_ok _) rgJF <| Wp.ret <| thenR <| ?_
   obtain rfl := sj h
   refine ⟨.inl rfl, ?_⟩
   refine Rt.of <| ?_
   have fx := i2 f8_res f8_rt
   exact rtJ
  ·rw [if_f hg26] at h
   have fx := i2 hc2 hg26
   refine rq hU (f8_ci_ok _) rgJF <| thenN <| ?_
   refine Wp.cond hU (t := decide ((a.length : Int) > 4096)) rfl (fun hc3 => ?_) (fun hc3 => ?_)
   ·rw [if_t hc3] at h
    refine Wp.seq <| ?_
    have fx := i3 hc2 hg26 hc3
    refine rq hU (f8_ci_ok _) rgJF <| thenN <| Wp.ret <| thenR <| ?_
    obtain rfl := sj h
    refine ⟨.inl rfl, ?_⟩
    refine Rt.of <| ?_
    have fx := i2 f8_res f8_rt
    exact rtJ
   ·rw [if_f hc3] at h
    refine Wp.skip <| thenN <| Wp.seq <| Wp.seq <| ?_
    have fx := i3 hc2 hg26 hc3
    refine rq hU (f8_ci_ok _) rgJF <| thenN <| Wp.block <| ?_
    obtain ⟨o4, ho4, h⟩ := bind_some h
    refine Wp.loop <| ?_
    refine Tw.mono (Wk.wpL (s2 := ⟨.v (.string (mkS a)) :: .v (.string (mkS b)) :: jj 3 (.v (.int .i64 0) :: jj 149 []), St [], none, 0⟩) ?_ (f8_l0_ok a b hU 0 o4 ho4)) (fun ex s1 hp => ?_)
    ·exact Wk.weak hU [] _ (by decide) .nil wvJ
    ·cases o4 with
     | ret r0 =>
      obtain ⟨rfl, hp⟩ := hp
      obtain rfl := sj h
      refine blkR <| thenR <| ?_
      exact ⟨.inl rfl, hp⟩
     | nxt wo4 =>
      obtain ⟨rfl, hp⟩ := hp
      dsimp only at h
      refine blkE <| thenN <| hp.wp <| Wp.seq <| ?_
      obtain ⟨r8, hr8, h⟩ := bind_some h
      have hr8c := fun σ => show f8_ci 11 _ σ = _ from f11_call hr8 σ
      have fx := i4 hr8c hc2 hg26 hc3
      refine rq hU (f8_ci_ok _) rgJF <| thenN <| Wp.seq <| ?_
      obtain ⟨r9, hr9, h⟩ := bind_some h
      have hr9c := fun σ => show f8_ci 11 _ σ = _ from f11_call hr9 σ
      have fx := i4 hr9c hc2 hg26 hc3
      refine rq hU (f8_ci_ok _) rgJF <| thenN <| Wp.seq <| ?_
      obtain ⟨s10, hs10, h⟩ := bind_some h
      obtain ⟨hs10a, hs10b⟩ := cat_some hs10
      try simp only [List.length_cons, List.length_nil, Nat.zero_add, Nat.add_zero, Nat.reduceAdd] at hs10a
      obtain ⟨s11, hs11, h⟩ := bind_some h
      obtain ⟨hs11a, hs11b⟩ := cat_some hs11
      try simp only [hs10b, List.length_append, List.cons_append, List.nil_append, List.length_cons, List.length_nil, Nat.zero_add, Nat.add_zero, Nat.reduceAdd] at hs11a
      obtain ⟨r12, hr12, h⟩ := bind_some h
      have hr12c := fun σ => show f8_ci 11 _ σ = _ from f11_call hr12 σ
      have hr12p := hr12c
      try simp only [hs10b, hs11b, List.cons_append, List.map_append, List.nil_append, Int.toNat_zero, List.drop_zero, List.map_cons, List.map_nil, cInt_eq, cBool_eq, cStr_eq, cSl_eq, tys] at hr12p
      have fx := i7 hs10a hs11a hr12c hr12p hc2 hg26 hc3
      refine rq hU (f8_ci_ok _) rgJF <| thenN <| ?_
      refine Wk.wp (s2 := ⟨.v (.string (mkS a)) :: jj 5 (.row 0 6 0 ((r8.1).length) :: .v (.int .i64 r8.2.1) :: .v (.int .i64 r8.2.2) :: .row 1 6 0 ((r9.1).length) :: .v (.int .i64 r9.2.1) :: .v (.int .i64 r9.2.2) :: .row 2 6 0 ((r12.1).length) :: .v (.int .i64 r12.2.1) :: .v (.int .i64 r12.2.2) :: jj 140 []), St [some ⟨6, false, true, List.map cToken r8.1⟩, some ⟨6, false, true, List.map cToken r9.1⟩, some ⟨6, false, true, List.map cToken r12.1⟩], none, 0⟩) ?_ ?_
      ·have fe := i2 hs10b hs11b
       have fl := i2 hs10b hs11b
       have fv := nofx
       exact Wk.weak hU [some 0, some 1, some 2] _ (by decide) wsJF wvJF
      refine Wp.seq <| Wp.seq <| ?_
      have fx := i3 hc2 hg26 hc3
      refine rq hU (f8_ci_ok _) rgJF <| thenN <| ?_
      refine Wp.cond hU (t := r8.2.2 != 0) rfl (fun hc13 => ?_) (fun hc13 => ?_)
      ·rw [if_t hc13] at h
       obtain ⟨o14, ho14, h⟩ := bind_some h
       refine Wp.seq1 (JP := (fun ex s1 => ex = .nrm ∧ Wk base c00 nilStore s1 ⟨jj 4 (.v (.bool o14) :: jj 150 []), St [], none, 0⟩)) ?_ (fun ex s1 hp => ?_)
       ·replace h := ho14
        rcases Bool.eq_false_or_eq_true (r12.2.2 == r8.2.2) with hg28 | hg28
        ·rw [if_t hg28] at h
         have fx := i5 hc2 hg26 hc3 hc13 hg28
         refine rq hU (f8_ci_ok _) rgJF <| ?_
         obtain rfl := sj h
         refine ⟨rfl, ?_⟩
         have fe := i2 hs10b hs11b
         have fl := i2 hs10b hs11b
         have fv := nofx
         exact Wk.weak hU [] _ (by decide) .nil wvJF
        ·rw [if_f hg28] at h
         have fx := i5 hc2 hg26 hc3 hc13 hg28
         refine rq hU (f8_ci_ok _) rgJF <| ?_
         obtain rfl := sj h
         refine ⟨rfl, ?_⟩
         have fe := i2 hs10b hs11b
         have fl := i2 hs10b hs11b
         have fv := nofx
         exact Wk.weak hU [] _ (by decide) .nil wvJF
       ·obtain ⟨rfl, hp⟩ := hp
        refine thenN (hp.wp ?_)
        refine Wp.ret <| thenR <| ?_
        obtain rfl := sj h
        refine ⟨.inl rfl, ?_⟩
        refine Rt.of <| ?_
        have fx := i4 f8_res f8_rt hs10b hs11b
        exact rtJ
      ·rw [if_f hc13] at h
       refine Wp.skip <| thenN <| Wp.seq <| Wp.seq <| ?_
       have fx := i4 hc2 hg26 hc3 hc13
       refine rq hU (f8_ci_ok _) rgJF <| thenN <| ?_
       refine Wp.cond hU (t := r9.2.2 != 0) rfl (fun hc15 => ?_) (fun hc15 => ?_)
       ·rw [if_t hc15] at h
        obtain ⟨o16, ho16, h⟩ := bind_some h
        refine Wp.seq1 (JP := (fun ex s1 => ex = .nrm ∧ Wk base c00 nilStore s1 ⟨jj 4 (.v (.bool o16) :: jj 150 []), St [], none, 0⟩)) ?_ (fun ex s1 hp => ?_)
        ·replace h := ho16
         rcases Bool.eq_false_or_eq_true (r12.2.2 == r9.2.2) with hg30 | hg30
         ·rw [if_t hg30] at h
          have fx := i6 hc2 hg26 hc3 hc13 hc15 hg30
          refine rq hU (f8_ci_ok _) rgJF <| ?_
          obtain rfl := sj h
          refine ⟨rfl, ?_⟩
          have fe := i2 hs10b hs11b
          have fl := i2 hs10b hs11b
          have fv := nofx
          exact Wk.weak hU [] _ (by decide) .nil wvJF
         ·rw [if_f hg30] at h
          have fx := i6 hc2 hg26 hc3 hc13 hc15 hg30
          refine rq hU (f8_ci_ok _) rgJF <| ?_
          obtain rfl := sj h
          refine ⟨rfl, ?_⟩
          have fe := i2 hs10b hs11b
          have fl := i2 hs10b hs11b
          have fv := nofx
          exact Wk.weak hU [] _ (by decide) .nil wvJF
        ·obtain ⟨rfl, hp⟩ := hp
         refine thenN (hp.wp ?_)
         refine Wp.ret <| thenR <| ?_
         obtain rfl := sj h
         refine ⟨.inl rfl, ?_⟩
         refine Rt.of <| ?_
         have fx := i4 f8_res f8_rt hs10b hs11b
         exact rtJ
       ·rw [if_f hc15] at h
        refine Wp.skip <| thenN <| Wp.seq <| Wp.seq <| ?_
        rcases Bool.eq_false_or_eq_true (r12.2.2 != 0) with hg37 | hg37
        ·rw [if_t hg37] at h
         have fx := i6 hc2 hg26 hc3 hc13 hc15 hg37
         refine rq hU (f8_ci_ok _) rgJF <| thenN <| ?_
         refine Wp.cond hU (t := true) rfl (fun _ => ?_) (fun hc => by cases hc)
         refine rs hU (f8_ci_ok _) rgJF <| Wp.ret <| thenR <| ?_
         obtain rfl := sj h
         refine ⟨.inl rfl, ?_⟩
         refine Rt.of <| ?_
         have fx := i4 f8_res f8_rt hs10b hs11b
         exact rtJ
        ·rw [if_f hg37] at h
         rcases Bool.eq_false_or_eq_true ((r12.1.length : Int) != (IntKind.i64.wrap ((IntKind.i64.wrap ((r8.1.length : Int) + 1)) + (r9.1.length : Int)))) with hg38 | hg38
         ·rw [if_t hg38] at h
          have fx := i7 hc2 hg26 hc3 hc13 hc15 hg37 hg38
          refine rq hU (f8_ci_ok _) rgJF <| thenN <| ?_
          refine Wp.cond hU (t := true) rfl (fun _ => ?_) (fun hc => by cases hc)
          refine rs hU (f8_ci_ok _) rgJF <| Wp.ret <| thenR <| ?_
          obtain rfl := sj h
          refine ⟨.inl rfl, ?_⟩
          refine Rt.of <| ?_
          have fx := i4 f8_res f8_rt hs10b hs11b
          exact rtJ
         ·rw [if_f hg38] at h
          obtain ⟨e17, he17, h⟩ := bind_some h
          obtain ⟨he17a, he17b, he17c⟩ := rd_some he17
          try simp only [Int.toNat_natCast] at he17b he17c
          have fx := i9 he17a he17b he17c hc2 hg26 hc3 hc13 hc15 (i2 hg37 hg38)
          refine rq hU (f8_ci_ok _) rgJF <| thenN <| ?_
          refine Wp.cond hU (t := e17.Kind != 1) rfl (fun hc18 => ?_) (fun hc18 => ?_)
          ·rw [if_t hc18] at h
           refine Wp.seq <| ?_
           have fx := i8 hc2 hg26 hc3 hc13 hc15 hg37 hg38 hc18
           refine rq hU (f8_ci_ok _) rgJF <| thenN <| Wp.ret <| thenR <| ?_
           obtain rfl := sj h
           refine ⟨.inl rfl, ?_⟩
           refine Rt.of <| ?_
           have fx := i4 f8_res f8_rt hs10b hs11b
           exact rtJ
          ·rw [if_f hc18] at h
           refine Wp.skip <| thenN <| Wp.seq <| Wp.seq <| ?_
           have fx := i8 hc2 hg26 hc3 hc13 hc15 hg37 hg38 hc18
           refine rq hU (f8_ci_ok _) rgJF <| thenN <| Wp.block <| ?_
           obtain ⟨o19, ho19, h⟩ := bind_some h
           refine Wp.loop <| ?_
           refine Tw.mono (Wk.wpL (s2 := ⟨.v (.string (mkS a)) :: jj 5 (.row 0 6 0 ((r8.1).length) :: jj 2 (.row 1 6 0 ((r9.1).length) :: jj 2 (.row 2 6 0 ((r12.1).length) :: jj 95 (.v (.int .i64 (r9.1.length : Int)) :: .v (.int .i64 0) :: jj 45 [])))), St [some ⟨6, false, true, List.map cToken r8.1⟩, some ⟨6, false, true, List.map cToken r9.1⟩, some ⟨6, false, true, List.map cToken r12.1⟩], none, 0⟩) ?_ (f8_l1_ok a r8 r9 r12 hU 0 o19 ho19)) (fun ex s1 hp => ?_)
           ·have fe := i2 hs10b hs11b
            have fl := i2 hs10b hs11b
            have fv := nofx
            exact Wk.weak hU [some 0, some 1, some 2] _ (by decide) wsJF wvJF
           ·cases o19 with
            | ret r0 =>
             obtain ⟨rfl, hp⟩ := hp
             obtain rfl := sj h
             refine blkR <| thenR <| ?_
             exact ⟨.inl rfl, hp⟩
            | nxt wo19 =>
             obtain ⟨rfl, hp⟩ := hp
             dsimp only at h
             refine blkE <| thenN <| hp.wp <| Wp.seq <| ?_
             obtain ⟨p24, hp24, h⟩ := bind_some h
             obtain ⟨hp24a, hp24b, hp24c, hp24d, hp24e, hp24f⟩ := cutL_some hp24
             try simp only [Int.toNat_natCast] at hp24c hp24d
             try simp only [Int.toNat_natCast, Int.toNat_zero, List.drop_zero, Nat.sub_zero] at hp24e hp24f
             obtain ⟨r25, hr25, h⟩ := bind_some h
             have hr25c := fun σ => show f8_ci 13 _ σ = _ from f13_call hr25 σ
             have hr25p := hr25c
             try simp only [hp24e, List.map_append, List.nil_append, Int.toNat_zero, List.drop_zero, List.map_cons, List.map_nil, cInt_eq, cBool_eq, cStr_eq, cSl_eq, tys] at hr25p
             have fx := i9 hp24a hp24b hp24c hp24d hp24e.symm hr25c hr25p hc2 (i7 hg26 hc3 hc13 hc15 hg37 hg38 hc18)
             refine rq hU (f8_ci_ok _) rgJS <| thenN <| Wp.ret <| ?_
             obtain rfl := sj h
             refine ⟨.inl rfl, ?_⟩
             refine Rt.of <| ?_
             have fx := i5 f8_res f8_rt hs10b hs11b hp24e
             exact rtJ
noncomputable def f8_tbl : CI := tbl 8 (fun p : Str × Str => [.v (.string (mkS p.1)), .v (.string (mkS p.2))]) (fun p => (f8 p.1 p.2).map fun r => .v (.bool r))
theorem f8_tbl_ok {base : Nat} : CIOK E base f8_tbl := tbl_okM fun p q h => f8_ok p.1 p.2 q h
theorem f8_call {a : Str} {b : Str} {r : Bool} (h : f8 a b = some r) (σ : Store) : f8_tbl 8 [.v (.string (mkS a)), .v (.string (mkS b))] σ = some (.v (.bool r), σ, none) :=
 tbl_eq (x := (a, b)) (fun x y e => by
  obtain ⟨x0, x1⟩ := x; obtain ⟨y0, y1⟩ := y
  have e0 := av_str (List.cons.inj e).1
  have e1 := av_str (List.cons.inj (List.cons.inj e).2).1
  subst e0 e1; rfl) (by simp [h]) σ
end Go.Bx.Scan

/- ScanPieces in plain Lean. (Own text.) -/
namespace Go.Bx.Scan
set_option linter.unusedVariables false
set_option linter.unusedSimpArgs false
set_option linter.unusedSectionVars false
open Go.Proofs
set_option linter.unusedVariables false
set_option linter.unusedSimpArgs false

theorem f8_l0_eq (a : Str) (la : a.length ≤ 5000) : ∀ (k i : Nat), i + k = a.length → f8_l0 a i = some (if (a.drop i).contains 59 then .ret true else .nxt ())
  | 0, i, hk => by rw [f8_l0, if_neg (by simp <;> omega), List.drop_of_length_le (by omega)]; rfl
  | k + 1, i, hk => by
    have k1 : i < a.length := by omega
    rw [f8_l0, if_pos (by simp <;> omega), bt_nat k1]
    simp only [bind_ok]
    rw [b59, List.drop_eq_getElem_cons k1, List.contains_cons]
    by_cases h : a[i] = 59
    · rw [if_pos (by simpa using h)]; simp [h]
    · have : ((59 : UInt8) == a[i]) = false := beq_eq_false_iff_ne.2 (fun e => h e.symm)
      rw [if_neg (by simpa using h), this, Bool.false_or, w64 (by omega) (by omega), show ((i : Int) + 1) = ((i + 1 : Nat) : Int) by omega]
      exact f8_l0_eq a la k (i + 1) (by omega)
theorem f8_l1_eq (a : Str) (ts us : List Token) (t0 : Token) (x y z : Int × Int) (la : a.length ≤ 5000) (lt : ts.length ≤ 5000) (lu : us.length ≤ 5000) (hat : ∀ t ∈ us, 0 ≤ t.At ∧ t.At ≤ 5000) : ∀ (k i : Nat), i + k = us.length →
    f8_l1 a (ts, x.1, x.2) (us, y.1, y.2) (ts ++ t0 :: us.map (fun t => t.at_ ((a.length : Int) + 1)), z.1, z.2) i = some (.nxt ())
  | 0, i, hk => by rw [f8_l1, if_neg (by simp <;> omega)]
  | k + 1, i, hk => by
    have k1 : i < us.length := by omega
    have hb := hat _ (List.getElem_mem k1)
    rw [f8_l1, if_pos (by simp <;> omega), w64 (x := (ts.length : Int) + 1) (by omega) (by omega), w64 (x := (ts.length : Int) + 1 + i) (by omega) (by omega)]
    have hlen : ts.length + 1 + i < (ts ++ t0 :: us.map (fun t => t.at_ ((a.length : Int) + 1))).length := by simp; omega
    rw [rdN (n := ts.length + 1 + i) (by omega) hlen]
    simp only [bind_ok]
    rw [rd_nat k1]
    simp only [bind_ok]
    have hget : (ts ++ t0 :: us.map (fun t => t.at_ ((a.length : Int) + 1)))[ts.length + 1 + i] = us[i].at_ ((a.length : Int) + 1) := by
      rw [List.getElem_append_right (by omega)]
      simp only [show ts.length + 1 + i - ts.length = i + 1 by omega, List.getElem_cons_succ, List.getElem_map]
    rw [hget, if_neg (by simp [Token.at_]), w64 (x := us[i].At + a.length) (by omega) (by omega), w64 (x := us[i].At + a.length + 1) (by omega) (by omega), if_neg (by simp [Token.at_]; omega), w64 (by omega) (by omega), show ((i : Int) + 1) = ((i + 1 : Nat) : Int) by omega]
    exact f8_l1_eq a ts us t0 x y z la lt lu hat k (i + 1) (by omega)
theorem f8_eq (a b : Str) (ha : a.length < 140737488355328) (hb : b.length < 140737488355328) : f8 a b = some true := by
  unfold f8
  rw [f10_eq]
  simp only [bind_ok, Bool.not_true, Bool.false_eq_true, if_false]
  rw [w64 (x := (a.length : Int) + 1) (by omega) (by omega), w64 (x := 4096 - (b.length : Int)) (by omega) (by omega)]
  by_cases h1 : (a.length : Int) + 1 > 4096 - (b.length : Int)
  · rw [if_pos (by rw [decide_eq_true_eq]; exact h1)]
  · rw [if_neg (by rw [decide_eq_true_eq]; exact h1), if_neg (by rw [decide_eq_true_eq]; omega)]
    have h0 := f8_l0_eq a (by omega) a.length 0 (by omega)
    rw [show ((0 : Nat) : Int) = 0 from rfl, List.drop_zero] at h0
    rw [h0]
    simp only [bind_ok]
    cases hc : a.contains 59 with
    | true => rfl
    | false =>
      simp only [Bool.false_eq_true, if_false]
      have h59 : 59 ∉ a := by intro hm; rw [List.contains_eq_mem] at hc; simp [hm] at hc
      rw [f11_le (show a.length ≤ 4096 by omega), f11_le (show b.length ≤ 4096 by omega), catN (by simp; omega)]
      simp only [bind_ok]
      rw [catN (by simp; omega)]
      simp only [bind_ok]
      rw [f11_le (by simp; omega)]
      simp only [bind_ok]
      have e : a ++ [40] ++ b = a ++ 40 :: b := by simp
      have ht : tokS (a ++ [40] ++ b) 0 = (tokS a 0).cat ((TR.shift ((a.length : Int) + 1) (tokS b 0)).cons ⟨1, [40], nil0, (a.length : Int)⟩) := by
        rw [e, tok_app (c := 40) (by decide) b a.length a 0 (Nat.le_refl _) (.inr h59), tok_sig _ (by decide), ← tok_shift _ b.length b 0 (Nat.le_refl _)]
        congr 3 <;> omega
      rw [ht]
      cases hr : tokS a 0 with
      | bad p q =>
        have he := tok_err a.length a 0 p q (Nat.le_refl _) hr
        simp [TR.cat, finT, he]
      | ok ts =>
        have hsm := tok_small a 0 (by omega) ts hr
        cases hq : tokS b 0 with
        | bad p q =>
          have he := tok_err b.length b 0 p q (Nat.le_refl _) hq
          have hb := tok_bad b p q hq
          have hw1 : IntKind.i64.wrap (p + (a.length : Int)) = p + (a.length : Int) := w64 (by omega) (by omega)
          have hw2 : IntKind.i64.wrap (p + (a.length : Int) + 1) = p + ((a.length : Int) + 1) := by rw [w64 (by omega) (by omega)]; omega
          simp [TR.cat, TR.shift, TR.cons, finT, he, hw1, hw2]
        | ok us =>
          have hum := (tok_small b 0 (by omega) us hq).2
          have hat := Pl.at_ (by omega) (tok_at b us hq)
          have hw1 : IntKind.i64.wrap ((ts.length : Int) + 1) = (ts.length : Int) + 1 := w64 (by omega) (by omega)
          have hw2 : IntKind.i64.wrap ((ts.length : Int) + 1 + (us.length : Int)) = (ts.length : Int) + 1 + (us.length : Int) := w64 (by omega) (by omega)
          generalize hL : ts ++ (⟨1, [40], nil0, (a.length : Int)⟩ : Token) :: us.map (fun t => t.at_ ((a.length : Int) + 1)) = L
          have hLl : (L.length : Int) = (ts.length : Int) + 1 + (us.length : Int) := by rw [← hL]; simp; omega
          have hL0 : rd L (ts.length : Int) = some ⟨1, [40], nil0, (a.length : Int)⟩ := by
            rw [rdN (n := ts.length) rfl (by omega)]
            simp only [← hL]
            rw [List.getElem_append_right (by omega)]
            simp
          have hcut : cutL L 0 (ts.length : Int) = some ts := by
            rw [cutN (i := 0) (m := 0) (n := ts.length) rfl rfl (by omega) (by omega), ← hL]; simp
          have h2 := f8_l1_eq a ts us ⟨1, [40], nil0, (a.length : Int)⟩ (0, 0) (0, 0) (0, 0) (by omega) (by omega) (by omega) (fun t ht => by have := hat t ht; omega) us.length 0 (by omega)
          rw [show ((0 : Nat) : Int) = 0 from rfl, hL] at h2
          have h3 := f13_self ts (by omega) hsm.1
          simp [TR.cat, TR.shift, TR.cons, finT, hw1, hw2, hL, hLl, hL0, hcut, h2, h3]
end Go.Bx.Scan

/- ScanPieces: for every input that the statement speaks of the law returns true and leaves what it was handed. (Own text.) -/
namespace Go.Proofs.Ytgnhnfaojpjieaa
set_option linter.unusedVariables false
set_option linter.unusedSimpArgs false
set_option linter.unusedSectionVars false
open Go.Bx Go.Bx.Scan
open Go.Proofs Go.ChangeShapes Go.WideShapes Go.ChangeAt Go.RowKit
set_option linter.unusedVariables false

set_option maxRecDepth 100000 in
theorem lifted8 (os : Os) (started : os.Started) (H : Type) (enc : TypeId × Value → H) :
    ReturnsInHanded {} Try.checked os 8 .any (Rows.scanPiecesSpec.pre6 enc Try.prog Try.f8 Rows.scanPiecesRow.domain false) (Rows.scanPiecesSpec.post enc Try.prog Try.f8 false true false false) := by
  refine returnsInHanded_of_change_sized (C := Try.checked) own_ started (by kernel_rfl) Try.func8
    (ChangeSpec.witness6 (enc := enc) (C := Try.checked) false ⟨#[], #[.string ByteArray.empty, .string ByteArray.empty], []⟩ 8 (by kernel_rfl) (by kernel_rfl) (by kernel_rfl) (by kernel_rfl)) ?_
  intro W base args ds gs before hval0 hW hcnd hsz0 _
  have hsz : (DataW.weightsEach Try.prog (Try.f8.params.toList ++ Rows.scanPiecesSpec.plain.varTypes Try.prog) (ds ++ gs)).all (· ≤ reachBytes) = true := hsz0
  have hval : ∀ (j : Nat) t v, Try.f8.params[j]? = some t → args[j]? = some v → Value.okWide Try.prog W .any base t v := hval0
  have hW' := hW
  obtain ⟨p, q, hA0, hV, rfl, hfz, hnd⟩ := hW
  have hA : DataW.TrodAll enc Try.prog W 0 (fun _ => true) true Try.f8.params.toList args.toList ds p := hA0
  rw [Try.params8] at hA hval hsz
  obtain ⟨v0, vs0, d0, ds0, p0, q0, hargs, rfl, rfl, h0, r0⟩ := trodAll_cons hA
  obtain ⟨v1, vs1, d1, ds1, p1, q1, rfl, rfl, rfl, h1, r1⟩ := trodAll_cons r0
  obtain ⟨rfl, rfl, rfl⟩ := trodAll_nil r1
  obtain rfl : args = #[v0, v1] := by cases args; simp_all
  obtain ⟨rfl, rfl⟩ := trodVars_none hV
  have lt0 : ∀ x ∈ p0, x.block < W.heap.size := by obtain ⟨m, hm⟩ := h0; exact DataW.trod_lt m _ _ _ hm
  have k0 := h0
  have lt1 : ∀ x ∈ p1, x.block < W.heap.size := by obtain ⟨m, hm⟩ := h1; exact DataW.trod_lt m _ _ _ hm
  have k1 := h1
  have wt : ∀ (j : Nat) t (d : DataW H), ([9, 9] : List Nat)[j]? = some t → [d0, d1][j]? = some d → ∀ z ∈ d.weights Try.prog t, z ≤ reachBytes := by
    intro j t d ht hd z hz
    have := List.all_eq_true.1 hsz z (DataW.weights_mem_each (j := j) (t := t) (d := d) (by rw [List.getElem?_append_left]; exact ht; exact (List.getElem?_eq_some_iff.1 ht).1) (by rw [List.getElem?_append_left]; exact hd; exact (List.getElem?_eq_some_iff.1 hd).1) z hz)
    simpa using this
  obtain ⟨t0, rfl⟩ := okWide_string Try.underlying9 (hval 0 9 v0 rfl rfl)
  obtain ⟨t1, rfl⟩ := okWide_string Try.underlying9 (hval 1 9 v1 rfl rfl)
  obtain ⟨m0, hm0⟩ := h0
  obtain ⟨xs0, e0, _, s0⟩ := read_rep tabOK 8 9 (by decide) m0 _ _ hm0 (wt 0 9 d0 rfl rfl)
  obtain ⟨x0, rfl, b0⟩ := shape_str (T := tab) (t := 9) rfl s0
  obtain ⟨m1, hm1⟩ := h1
  obtain ⟨xs1, e1, _, s1⟩ := read_rep tabOK 8 9 (by decide) m1 _ _ hm1 (wt 1 9 d1 rfl rfl)
  obtain ⟨x1, rfl, b1⟩ := shape_str (T := tab) (t := 9) rfl s1
  have hcall := f8_ok x0 x1 true (f8_eq x0 x1 (Nat.lt_of_le_of_lt b0 (by decide)) (Nat.lt_of_le_of_lt b1 (by decide)))
  refine (law_pure (E := E) (W := W) (fun _ => .junk) hcall ((e0).append (e1))).mono fun e W' ⟨he, bel⟩ => ?_
  subst he
  exact ⟨_, rfl, _, _, _, [], _, [], hW', trodAll_mk1 (shut_bool Try.underlying4 _), (trodAll_cons_mk (Below.trod laidOut (by kernel_rfl) (of_decide_eq_true (by kernel_rfl)) k0 bel lt0) (trodAll_cons_mk (Below.trod laidOut (by kernel_rfl) (of_decide_eq_true (by kernel_rfl)) k1 bel lt1) trodAll_mk0)), rfl, bel.frame _, fun h => by cases h⟩

theorem over8 : Rows.scanPiecesRow.holds Try.pinned (OpenSpec.ofChange Rows.scanPiecesSpec) :=
  OpenClaim.holds_of_wide 8 Try.f8 rfl rfl rfl rfl rfl rfl rfl ⟨rfl, rfl, rfl, rfl, rfl⟩ rfl rfl rfl rfl rfl (by kernel_rfl) Try.func8 (by kernel_rfl)
    (of_decide_eq_true (by kernel_rfl)) (by unfold Func.isWrapper; first | (rw [if_pos (by decide +kernel)]; kernel_rfl) | (rw [if_neg (by decide +kernel)]; exact ⟨rfl, rfl⟩))
    (fun os started H enc _ => lifted8 os started H enc)
/-- ScanPieces, as the statement says. -/
theorem scanPieces_holds : Rows.ScanPiecesSaid := over8
#print axioms scanPieces_holds
end Go.Proofs.Ytgnhnfaojpjieaa
