/- What the program's functions compute, shown of their code (L7). Own text; parts are printed by a program of this claim's author. -/
import Derived.Test.YtgnhnfaojpjieaaW5
namespace Go.Bx.Scan
set_option linter.unusedVariables false
set_option linter.unusedSimpArgs false
set_option linter.unusedSectionVars false
open Go.Proofs
set_option linter.unusedSimpArgs false
set_option linter.unusedVariables false
set_option maxRecDepth 10000
set_option maxHeartbeats 4000000
def f7_l0 (remark : Str) (r_ : Str) (i : Int) : Option (Str) :=
 if (decide (i < (remark.length : Int))) = true then
  ((bt remark i >>= fun b7 =>
  if (b7 != 10) = true then
   (cutL remark i (IntKind.i64.wrap (i + 1)) >>= fun p9 =>
   cat r_ p9 >>= fun s10 =>
   some s10)
  else
   some r_ : Option (Str)) >>= fun o6 =>
  f7_l0 remark o6 (IntKind.i64.wrap (i + 1)))
 else
  some r_
 partial_fixpoint
def f7_l1 (s12 : Str) (r13 : (List Token) × Int × Int) (r17 : (List Token) × Int × Int) (v : Int) : Option (Ou Bool Unit) :=
 if (decide (v < (r13.1.length : Int))) = true then
  (rd r17.1 v >>= fun e22 =>
  rd r13.1 v >>= fun e23 =>
  if (e22.Kind != e23.Kind) = true then
   (some (.ret false))
  else
   if (e22.Text != e23.Text) = true then
    (some (.ret false))
   else
    if (e22.At != (IntKind.i64.wrap (e23.At + (s12.length : Int)))) = true then
     (some (.ret false))
    else
     f7_l1 s12 r13 r17 (IntKind.i64.wrap (v + 1)))
 else
  some (.nxt ())
 partial_fixpoint
/-- sibyl/sibyllaw04.ScanBlanks -/
def f7 (text : Str) (remark : Str) : Option (Bool) :=
 f10 >>= fun r1 =>
 if (!r1) = true then
  (some false)
 else
  if (decide ((text.length : Int) > 2000)) = true then
   (some true)
  else
   if (decide ((remark.length : Int) > 1000)) = true then
    (some true)
   else
    f7_l0 remark [] 0 >>= fun o4 =>
    cat [32, 9, 59] o4 >>= fun s11 =>
    cat s11 [10, 13] >>= fun s12 =>
    f11 text >>= fun r13 =>
    cat s12 text >>= fun s14 =>
    cat s14 [10, 59] >>= fun s15 =>
    cat s15 o4 >>= fun s16 =>
    f11 s16 >>= fun r17 =>
    (if (r13.2.2 != r17.2.2) = true then
     (some (.ret false))
    else
     if (r13.2.2 != 0) = true then
      (if (r17.2.1 != (IntKind.i64.wrap (r13.2.1 + (s12.length : Int)))) = true then
       (some (.ret false))
      else
       if ((r13.1.length : Int) != (r17.1.length : Int)) = true then
        (some (.ret false))
       else
        some (.nxt ()))
     else
      if ((r13.1.length : Int) != (r17.1.length : Int)) = true then
       (some (.ret false))
      else
       some (.nxt ()) : Option (Ou Bool Unit)) >>= fun o18 => match o18 with
    | .ret r0 => some r0
    | .nxt wo18 =>
     f7_l1 s12 r13 r17 0 >>= fun o20 => match o20 with
     | .ret r0 => some r0
     | .nxt wo20 =>
      some true
noncomputable def f7_ci : CI := (CI.or 10 f10_tbl (CI.or 11 f11_tbl (fun _ _ _ => none)))
theorem f7_ci_ok (base : Nat) : CIOK E base f7_ci := (or_ok f10_tbl_ok (or_ok f11_tbl_ok no_ok))
theorem f7_res : Try.f7.results = #[.tmp 4] := rfl
theorem f7_rt : Try.f7.resultTypes = #[4] := rfl
theorem f7_l0_ok {base : Nat} {c00 : Ctx} (remark : Str) (text : Str) (hU : Under E base c00 nilStore) : ∀ (r_ : Str) (i : Int) (o4 : Str), f7_l0 remark r_ i = some o4 →
  WpL E base c00 nilStore (lb Try.f7 0) ⟨.v (.string (mkS text)) :: .v (.string (mkS remark)) :: jj 3 (.v (.string (mkS r_)) :: .v (.int .i64 i) :: jj 123 []), St [], none, 0⟩ (fun ex s1 => ex = .exit 0 ∧ Wk base c00 nilStore s1 ⟨.v (.string (mkS text)) :: jj 4 (.v (.string (mkS o4)) :: jj 124 []), St [], none, 0⟩) := by
 refine f7_l0.partial_correctness remark _ ?_
 intro lp__ ih r_ i o4 h
 refine WpL.stepE (lbI Try.f7.eq_1) ?_
 refine Wp.seq <| rs hU (f7_ci_ok _) rgJ <| ?_
 refine Wp.cond hU (t := decide (i < (remark.length : Int))) rfl (fun hc5 => ?_) (fun hc5 => ?_)
 ·rw [if_t hc5] at h
  refine Wp.skip <| thenN <| ?_
  obtain ⟨o6, ho6, h⟩ := bind_some h
  refine Wp.seq1 (JP := (fun ex s1 => ex = .nrm ∧ Wk base c00 nilStore s1 ⟨.v (.string (mkS text)) :: .v (.string (mkS remark)) :: jj 3 (.v (.string (mkS o6)) :: .v (.int .i64 i) :: jj 123 []), St [], none, 0⟩)) ?_ (fun ex s1 hp => ?_)
  ·replace h := ho6
   refine Wp.block <| Wp.seq <| ?_
   obtain ⟨b7, hb7, h⟩ := bind_some h
   have fx := i2 hb7 hc5
   refine rq hU (f7_ci_ok _) rgJF <| thenN <| ?_
   refine Wp.cond hU (t := b7 != 10) rfl (fun hc8 => ?_) (fun hc8 => ?_)
   ·rw [if_t hc8] at h
    obtain ⟨p9, hp9, h⟩ := bind_some h
    obtain ⟨hp9a, hp9b, hp9c, hp9d, hp9e, hp9f⟩ := cutL_some hp9
    try simp only [Int.toNat_natCast] at hp9c hp9d
    try simp only [Int.toNat_natCast, Int.toNat_zero, List.drop_zero, Nat.sub_zero] at hp9e hp9f
    obtain ⟨s10, hs10, h⟩ := bind_some h
    obtain ⟨hs10a, hs10b⟩ := cat_some hs10
    try simp only [List.length_cons, List.length_nil, Nat.zero_add, Nat.add_zero, Nat.reduceAdd] at hs10a
    have fx := i8 hp9a hp9b hp9c hp9d hp9e.symm hs10a hc5 hc8
    refine rq hU (f7_ci_ok _) rgJS <| blkN <| ?_
    obtain rfl := sj h
    refine ⟨rfl, ?_⟩
    have fe := i2 hp9e hs10b
    have fl := i2 hs10b hp9f
    have fv := i3 hp9e hp9c hp9d
    exact Wk.weak hU [] _ (by decide) .nil wvJF
   ·rw [if_f hc8] at h
    refine Wp.skip <| blkN <| ?_
    obtain rfl := sj h
    refine ⟨rfl, ?_⟩
    exact Wk.weak hU [] _ (by decide) .nil wvJ
  ·obtain ⟨rfl, hp⟩ := hp
   refine thenN (hp.wp ?_)
   have fx := hc5
   refine rq hU (f7_ci_ok _) rgJF <| againN <| ?_
   refine Wk.wpL ?_ (ih o6 (IntKind.i64.wrap (i + 1)) _ h)
   exact Wk.weak hU [] _ (by decide) .nil wvJ
 ·rw [if_f hc5] at h
  refine Wp.exit <| thenE <| againE <| ?_
  obtain rfl := sj h
  refine ⟨rfl, ?_⟩
  exact Wk.weak hU [] _ (by decide) .nil wvJ
theorem f7_l1_ok {base : Nat} {c00 : Ctx} (s12 : Str) (r13 : (List Token) × Int × Int) (r17 : (List Token) × Int × Int) (hU : Under E base c00 nilStore) : ∀ (v : Int) (o20 : Ou Bool Unit), f7_l1 s12 r13 r17 v = some o20 →
  WpL E base c00 nilStore (lb Try.f7 1) ⟨jj 7 (.v (.string (mkS s12)) :: .row 0 6 0 ((r13.1).length) :: jj 2 (.row 1 6 0 ((r17.1).length) :: jj 73 (.v (.int .i64 (r13.1.length : Int)) :: .v (.int .i64 v) :: jj 43 []))), St [some ⟨6, false, true, List.map cToken r13.1⟩, some ⟨6, false, true, List.map cToken r17.1⟩], none, 0⟩ (fun ex s1 => match o20 with | .ret r0 => ex = .ret ∧ Rt E base c00 Try.f7 (.v (.bool r0)) s1 | .nxt wo20 => ex = .exit 2 ∧ Wk base c00 nilStore s1 ⟨jj 130 [], St [], none, 0⟩) := by
 refine f7_l1.partial_correctness s12 r13 r17 _ ?_
 intro lp__ ih v o20 h
 refine WpL.stepE (lbI Try.f7.eq_1) ?_
 refine rs hU (f7_ci_ok _) rgJ <| Wp.seq <| ?_
 refine Wp.cond hU (t := decide (v < (r13.1.length : Int))) rfl (fun hc21 => ?_) (fun hc21 => ?_)
 ·rw [if_t hc21] at h
  refine Wp.skip <| thenN <| Wp.seq <| Wp.block <| Wp.seq <| ?_
  have fx := hc21
  refine rq hU (f7_ci_ok _) rgJF <| thenN <| Wp.seq <| ?_
  obtain ⟨e22, he22, h⟩ := bind_some h
  obtain ⟨he22a, he22b, he22c⟩ := rd_some he22
  obtain ⟨e23, he23, h⟩ := bind_some h
  obtain ⟨he23a, he23b, he23c⟩ := rd_some he23
  rcases Bool.eq_false_or_eq_true (e22.Kind != e23.Kind) with hg65 | hg65
  ·rw [if_t hg65] at h
   have fx := i8 he22a he22b he22c he23a he23b he23c hc21 hg65
   refine Wp.regionT hU (f7_ci_ok _) rgJF (by kernel_rfl) <| thenN <| ?_
   refine Wp.cond hU (t := true) rfl (fun _ => ?_) (fun hc => by cases hc)
   refine Wp.seq <| ?_
   have fx := i2 hc21 hg65
   refine rq hU (f7_ci_ok _) rgJF <| thenN <| Wp.ret <| blkR <| thenR <| againR <| ?_
   obtain rfl := sj h
   refine ⟨rfl, ?_⟩
   refine Rt.of <| ?_
   have fx := i2 f7_res f7_rt
   exact rtJ
  ·rw [if_f hg65] at h
   rcases Bool.eq_false_or_eq_true (e22.Text != e23.Text) with hg66 | hg66
   ·rw [if_t hg66] at h
    have fx := i9 he22a he22b he22c he23a he23b he23c hc21 hg65 hg66
    refine Wp.regionT hU (f7_ci_ok _) rgJF (by kernel_rfl) <| thenN <| ?_
    refine Wp.cond hU (t := true) rfl (fun _ => ?_) (fun hc => by cases hc)
    refine Wp.seq <| ?_
    have fx := i3 hc21 hg65 hg66
    refine rq hU (f7_ci_ok _) rgJF <| thenN <| Wp.ret <| blkR <| thenR <| againR <| ?_
    obtain rfl := sj h
    refine ⟨rfl, ?_⟩
    refine Rt.of <| ?_
    have fx := i2 f7_res f7_rt
    exact rtJ
   ·rw [if_f hg66] at h
    have fx := i9 he22a he22b he22c he23a he23b he23c hc21 hg65 hg66
    refine Wp.regionT hU (f7_ci_ok _) rgJF (by kernel_rfl) <| thenN <| ?_
    refine Wp.cond hU (t := e22.At != (IntKind.i64.wrap (e23.At + (s12.length : Int)))) rfl (fun hc24 => ?_) (fun hc24 => ?_)
    ·rw [if_t hc24] at h
     refine Wp.seq <| ?_
     have fx := i4 hc21 hg65 hg66 hc24
     refine rq hU (f7_ci_ok _) rgJF <| thenN <| Wp.ret <| blkR <| thenR <| againR <| ?_
     obtain rfl := sj h
     refine ⟨rfl, ?_⟩
     refine Rt.of <| ?_
     have fx := i2 f7_res f7_rt
     exact rtJ
    ·rw [if_f hc24] at h
     refine Wp.skip <| blkN <| thenN <| ?_
     have fx := i4 hc21 hg65 hg66 hc24
     refine rq hU (f7_ci_ok _) rgJF <| againN <| ?_
     refine Wk.wpL ?_ (ih (IntKind.i64.wrap (v + 1)) _ h)
     exact Wk.weak hU [some 0, some 1] _ (by decide) wsJ wvJ
 ·rw [if_f hc21] at h
  refine Wp.exit <| thenE <| againE <| ?_
  obtain rfl := sj h
  refine ⟨rfl, ?_⟩
  exact Wk.weak hU [] _ (by decide) .nil wvJ
theorem f7_ok (text : Str) (remark : Str) (r : Bool) (h : f7 text remark = some r) : PureOK E 7 [.v (.string (mkS text)), .v (.string (mkS remark))] (.v (.bool r)) := by
 unfold f7 at h
 refine pof (fn := Try.f7) (nt := 130) Try.func7 rfl rfl rfl rfl (fun _ => rfl) (fun base c00 hU => ?_)
 refine Wk.wp (s2 := ⟨.v (.string (mkS text)) :: .v (.string (mkS remark)) :: jj 128 [], St [], none, 0⟩) ?_ ?_
 ·exact Wk.weak hU [] _ (by decide) .nil wvS
 refine rs hU (f7_ci_ok _) rgJ <| Wp.seq <| Wp.seq <| ?_
 obtain ⟨r1, hr1, h⟩ := bind_some h
 have hr1c := fun σ => show f7_ci 10 _ σ = _ from f10_call hr1 σ
 have fx := hr1c
 refine rq hU (f7_ci_ok _) rgJF <| thenN <| ?_
 refine Wp.cond hU (t := !r1) rfl (fun hc2 => ?_) (fun hc2 => ?_)
 ·rw [if_t hc2] at h
  refine Wp.seq <| ?_
  have fx := hc2
  refine rq hU (f7_ci_ok _) rgJF <| thenN <| Wp.ret <| thenR <| ?_
  obtain rfl := sj h
  refine ⟨.inl rfl, ?_⟩
  refine Rt.of <| ?_
  have fx := i2 f7_res f7_rt
  exact rtJ
 ·rw [if_f hc2] at h
  refine Wp.skip <| thenN <| Wp.seq <| Wp.seq <| ?_
  rcases Bool.eq_false_or_eq_true (decide ((text.length : Int) > 2000)) with hg30 | hg30
  ·rw [if_t hg30] at h
   have fx := i2 hc2 hg30
   refine rq hU (f7_ci_ok _) rgJF <| thenN <| ?_
   refine Wp.cond hU (t := true) rfl (fun _ => ?_) (fun hc => by cases hc)
   refine rs hU (f7_ci_ok _) rgJF <| Wp.ret <| thenR <| ?_
   obtain rfl := sj h
   refine ⟨.inl rfl, ?_⟩
   refine Rt.of <| ?_
   have fx := i2 f7_res f7_rt
   exact rtJ
  ·rw [if_f hg30] at h
   have fx := i2 hc2 hg30
   refine rq hU (f7_ci_ok _) rgJF <| thenN <| ?_
   refine Wp.cond hU (t := decide ((remark.length : Int) > 1000)) rfl (fun hc3 => ?_) (fun hc3 => ?_)
   ·rw [if_t hc3] at h
    refine Wp.seq <| ?_
    have fx := i3 hc2 hg30 hc3
    refine rq hU (f7_ci_ok _) rgJF <| thenN <| Wp.ret <| thenR <| ?_
    obtain rfl := sj h
    refine ⟨.inl rfl, ?_⟩
    refine Rt.of <| ?_
    have fx := i2 f7_res f7_rt
    exact rtJ
   ·rw [if_f hc3] at h
    refine Wp.skip <| thenN <| Wp.seq <| ?_
    have fx := i3 hc2 hg30 hc3
    refine rq hU (f7_ci_ok _) rgJF <| thenN <| Wp.seq <| rs hU (f7_ci_ok _) rgJF <| Wp.block <| ?_
    obtain ⟨o4, ho4, h⟩ := bind_some h
    refine Wp.loop <| ?_
    refine Tw.mono (Wk.wpL (s2 := ⟨.v (.string (mkS text)) :: .v (.string (mkS remark)) :: jj 3 (.v (.string (mkS [])) :: .v (.int .i64 0) :: jj 123 []), St [], none, 0⟩) ?_ (f7_l0_ok remark text hU [] 0 o4 ho4)) (fun ex s1 hp => ?_)
    ·exact Wk.weak hU [] _ (by decide) .nil wvJ
    ·obtain ⟨rfl, hp⟩ := hp
     refine blkE <| thenN <| hp.wp <| Wp.seq <| ?_
     obtain ⟨s11, hs11, h⟩ := bind_some h
     obtain ⟨hs11a, hs11b⟩ := cat_some hs11
     try simp only [List.length_cons, List.length_nil, Nat.zero_add, Nat.add_zero, Nat.reduceAdd] at hs11a
     obtain ⟨s12, hs12, h⟩ := bind_some h
     obtain ⟨hs12a, hs12b⟩ := cat_some hs12
     try simp only [hs11b, List.length_append, List.cons_append, List.nil_append, List.length_cons, List.length_nil, Nat.zero_add, Nat.add_zero, Nat.reduceAdd] at hs12a
     have fx := i5 hs11a hs12a hc2 hg30 hc3
     refine rq hU (f7_ci_ok _) rgJF <| thenN <| ?_
     refine Wk.wp (s2 := ⟨.v (.string (mkS text)) :: jj 4 (.v (.string (mkS o4)) :: jj 1 (.v (.string (mkS s12)) :: jj 122 [])), St [], none, 0⟩) ?_ ?_
     ·have fe := i2 hs11b hs12b
      have fl := i2 hs11b hs12b
      have fv := nofx
      exact Wk.weak hU [] _ (by decide) .nil wvJF
     refine Wp.seq <| ?_
     obtain ⟨r13, hr13, h⟩ := bind_some h
     have hr13c := fun σ => show f7_ci 11 _ σ = _ from f11_call hr13 σ
     have fx := i4 hr13c hc2 hg30 hc3
     refine rq hU (f7_ci_ok _) rgJF <| thenN <| Wp.seq <| ?_
     obtain ⟨s14, hs14, h⟩ := bind_some h
     obtain ⟨hs14a, hs14b⟩ := cat_some hs14
     try simp only [List.length_cons, List.length_nil, Nat.zero_add, Nat.add_zero, Nat.reduceAdd] at hs14a
     obtain ⟨s15, hs15, h⟩ := bind_some h
     obtain ⟨hs15a, hs15b⟩ := cat_some hs15
     try simp only [hs14b, List.length_append, List.cons_append, List.nil_append, List.length_cons, List.length_nil, Nat.zero_add, Nat.add_zero, Nat.reduceAdd] at hs15a
     obtain ⟨s16, hs16, h⟩ := bind_some h
     obtain ⟨hs16a, hs16b⟩ := cat_some hs16
     try simp only [hs14b, hs15b, List.length_append, List.cons_append, List.nil_append, List.length_cons, List.length_nil, Nat.zero_add, Nat.add_zero, Nat.reduceAdd] at hs16a
     obtain ⟨r17, hr17, h⟩ := bind_some h
     have hr17c := fun σ => show f7_ci 11 _ σ = _ from f11_call hr17 σ
     have hr17p := hr17c
     try simp only [hs14b, hs15b, hs16b, List.cons_append, List.map_append, List.nil_append, Int.toNat_zero, List.drop_zero, List.map_cons, List.map_nil, cInt_eq, cBool_eq, cStr_eq, cSl_eq, tys] at hr17p
     have fx := i8 hs14a hs15a hs16a hr17c hr17p hc2 hg30 hc3
     refine rq hU (f7_ci_ok _) rgJF <| thenN <| ?_
     refine Wk.wp (s2 := ⟨jj 7 (.v (.string (mkS s12)) :: .row 0 6 0 ((r13.1).length) :: .v (.int .i64 r13.2.1) :: .v (.int .i64 r13.2.2) :: .row 1 6 0 ((r17.1).length) :: .v (.int .i64 r17.2.1) :: .v (.int .i64 r17.2.2) :: jj 116 []), St [some ⟨6, false, true, List.map cToken r13.1⟩, some ⟨6, false, true, List.map cToken r17.1⟩], none, 0⟩) ?_ ?_
     ·have fe := i5 hs11b hs12b hs14b hs15b hs16b
      have fl := i5 hs11b hs12b hs14b hs15b hs16b
      have fv := nofx
      exact Wk.weak hU [some 0, some 1] _ (by decide) wsJF wvJF
     obtain ⟨o18, ho18, h⟩ := bind_some h
     refine Wp.seq1 (JP := (fun ex s1 => match o18 with | .ret r0 => ex = .ret ∧ Rt E base c00 Try.f7 (.v (.bool r0)) s1 | .nxt wo18 => ex = .nrm ∧ Wk base c00 nilStore s1 ⟨jj 7 (.v (.string (mkS s12)) :: .row 0 6 0 ((r13.1).length) :: jj 2 (.row 1 6 0 ((r17.1).length) :: jj 118 [])), St [some ⟨6, false, true, List.map cToken r13.1⟩, some ⟨6, false, true, List.map cToken r17.1⟩], none, 0⟩)) ?_ (fun ex s1 hp => ?_)
     ·replace h := ho18
      refine Wp.seq <| ?_
      rcases Bool.eq_false_or_eq_true (r13.2.2 != r17.2.2) with hg40 | hg40
      ·rw [if_t hg40] at h
       have fx := i4 hc2 hg30 hc3 hg40
       refine rq hU (f7_ci_ok _) rgJF <| thenN <| ?_
       refine Wp.cond hU (t := true) rfl (fun _ => ?_) (fun hc => by cases hc)
       refine rs hU (f7_ci_ok _) rgJF <| Wp.ret <| ?_
       obtain rfl := sj h
       refine ⟨rfl, ?_⟩
       refine Rt.of <| ?_
       have fx := i7 f7_res f7_rt hs11b hs12b hs14b hs15b hs16b
       exact rtJ
      ·rw [if_f hg40] at h
       rcases Bool.eq_false_or_eq_true (r13.2.2 != 0) with hg41 | hg41
       ·rw [if_t hg41] at h
        rcases Bool.eq_false_or_eq_true (r17.2.1 != (IntKind.i64.wrap (r13.2.1 + (s12.length : Int)))) with hg42 | hg42
        ·rw [if_t hg42] at h
         have fx := i6 hc2 hg30 hc3 hg40 hg41 hg42
         refine rq hU (f7_ci_ok _) rgJF <| thenN <| ?_
         refine Wp.cond hU (t := true) rfl (fun _ => ?_) (fun hc => by cases hc)
         refine rs hU (f7_ci_ok _) rgJF <| Wp.ret <| ?_
         obtain rfl := sj h
         refine ⟨rfl, ?_⟩
         refine Rt.of <| ?_
         have fx := i7 f7_res f7_rt hs11b hs12b hs14b hs15b hs16b
         exact rtJ
        ·rw [if_f hg42] at h
         have fx := i6 hc2 hg30 hc3 hg40 hg41 hg42
         refine rq hU (f7_ci_ok _) rgJF <| thenN <| ?_
         refine Wp.cond hU (t := (r13.1.length : Int) != (r17.1.length : Int)) rfl (fun hc19 => ?_) (fun hc19 => ?_)
         ·rw [if_t hc19] at h
          refine Wp.seq <| ?_
          have fx := i7 hc2 hg30 hc3 hg40 hg41 hg42 hc19
          refine rq hU (f7_ci_ok _) rgJF <| thenN <| Wp.ret <| ?_
          obtain rfl := sj h
          refine ⟨rfl, ?_⟩
          refine Rt.of <| ?_
          have fx := i7 f7_res f7_rt hs11b hs12b hs14b hs15b hs16b
          exact rtJ
         ·rw [if_f hc19] at h
          refine Wp.skip <| ?_
          obtain rfl := sj h
          refine ⟨rfl, ?_⟩
          have fe := i5 hs11b hs12b hs14b hs15b hs16b
          have fl := i5 hs11b hs12b hs14b hs15b hs16b
          have fv := nofx
          exact Wk.weak hU [some 0, some 1] _ (by decide) wsJF wvJF
       ·rw [if_f hg41] at h
        have fx := i5 hc2 hg30 hc3 hg40 hg41
        refine rq hU (f7_ci_ok _) rgJF <| thenN <| ?_
        refine Wp.cond hU (t := (r13.1.length : Int) != (r17.1.length : Int)) rfl (fun hc19 => ?_) (fun hc19 => ?_)
        ·rw [if_t hc19] at h
         refine Wp.seq <| ?_
         have fx := i6 hc2 hg30 hc3 hg40 hg41 hc19
         refine rq hU (f7_ci_ok _) rgJF <| thenN <| Wp.ret <| ?_
         obtain rfl := sj h
         refine ⟨rfl, ?_⟩
         refine Rt.of <| ?_
         have fx := i7 f7_res f7_rt hs11b hs12b hs14b hs15b hs16b
         exact rtJ
        ·rw [if_f hc19] at h
         refine Wp.skip <| ?_
         obtain rfl := sj h
         refine ⟨rfl, ?_⟩
         have fe := i5 hs11b hs12b hs14b hs15b hs16b
         have fl := i5 hs11b hs12b hs14b hs15b hs16b
         have fv := nofx
         exact Wk.weak hU [some 0, some 1] _ (by decide) wsJF wvJF
     ·cases o18 with
      | ret r0 =>
       obtain ⟨rfl, hp⟩ := hp
       obtain rfl := sj h
       refine thenR <| ?_
       exact ⟨.inl rfl, hp⟩
      | nxt wo18 =>
       obtain ⟨rfl, hp⟩ := hp
       dsimp only at h
       refine thenN (hp.wp ?_)
       refine Wp.seq <| Wp.seq <| ?_
       have fx := i3 hc2 hg30 hc3
       refine rq hU (f7_ci_ok _) rgJF <| thenN <| Wp.block <| ?_
       obtain ⟨o20, ho20, h⟩ := bind_some h
       refine Wp.loop <| ?_
       refine Tw.mono (Wk.wpL (s2 := ⟨jj 7 (.v (.string (mkS s12)) :: .row 0 6 0 ((r13.1).length) :: jj 2 (.row 1 6 0 ((r17.1).length) :: jj 73 (.v (.int .i64 (r13.1.length : Int)) :: .v (.int .i64 0) :: jj 43 []))), St [some ⟨6, false, true, List.map cToken r13.1⟩, some ⟨6, false, true, List.map cToken r17.1⟩], none, 0⟩) ?_ (f7_l1_ok s12 r13 r17 hU 0 o20 ho20)) (fun ex s1 hp => ?_)
       ·have fe := i5 hs11b hs12b hs14b hs15b hs16b
        have fl := i5 hs11b hs12b hs14b hs15b hs16b
        have fv := nofx
        exact Wk.weak hU [some 0, some 1] _ (by decide) wsJF wvJF
       ·cases o20 with
        | ret r0 =>
         obtain ⟨rfl, hp⟩ := hp
         obtain rfl := sj h
         refine blkR <| thenR <| ?_
         exact ⟨.inl rfl, hp⟩
        | nxt wo20 =>
         obtain ⟨rfl, hp⟩ := hp
         dsimp only at h
         refine blkE <| thenN <| hp.wp <| rs hU (f7_ci_ok _) rgJF <| Wp.ret <| ?_
         obtain rfl := sj h
         refine ⟨.inl rfl, ?_⟩
         refine Rt.of <| ?_
         have fx := i7 f7_res f7_rt hs11b hs12b hs14b hs15b hs16b
         exact rtJ
noncomputable def f7_tbl : CI := tbl 7 (fun p : Str × Str => [.v (.string (mkS p.1)), .v (.string (mkS p.2))]) (fun p => (f7 p.1 p.2).map fun r => .v (.bool r))
theorem f7_tbl_ok {base : Nat} : CIOK E base f7_tbl := tbl_okM fun p q h => f7_ok p.1 p.2 q h
theorem f7_call {text : Str} {remark : Str} {r : Bool} (h : f7 text remark = some r) (σ : Store) : f7_tbl 7 [.v (.string (mkS text)), .v (.string (mkS remark))] σ = some (.v (.bool r), σ, none) :=
 tbl_eq (x := (text, remark)) (fun x y e => by
  obtain ⟨x0, x1⟩ := x; obtain ⟨y0, y1⟩ := y
  have e0 := av_str (List.cons.inj e).1
  have e1 := av_str (List.cons.inj (List.cons.inj e).2).1
  subst e0 e1; rfl) (by simp [h]) σ
end Go.Bx.Scan

/- ScanBlanks in plain Lean. (Own text.) -/
namespace Go.Bx.Scan
set_option linter.unusedVariables false
set_option linter.unusedSimpArgs false
set_option linter.unusedSectionVars false
open Go.Proofs
set_option linter.unusedVariables false
set_option linter.unusedSimpArgs false

/-! ### ScanBlanks -/
theorem f7_l0_eq (s : Str) (ls : s.length ≤ 1000) : ∀ (k i : Nat) (out : Str), i + k = s.length → out.length ≤ i → f7_l0 s out i = some (out ++ (s.drop i).filter nl)
  | 0, i, out, hk, ho => by rw [f7_l0, if_neg (by simp <;> omega), List.drop_of_length_le (by omega)]; simp
  | k + 1, i, out, hk, ho => by
    have k1 : i < s.length := by omega
    rw [f7_l0, if_pos (by simp <;> omega), bt_nat k1]
    simp only [bind_ok]
    rw [b10, List.drop_eq_getElem_cons k1, List.filter_cons]
    cases h : nl s[i] with
    | true =>
      simp only [if_true]
      rw [w64 (by omega) (by omega), cutN (m := i) (n := i + 1) rfl (by omega) (by omega) (by omega)]
      simp only [bind_ok]
      have e : (s.take (i + 1)).drop i = [s[i]] := by rw [List.drop_take, show i + 1 - i = 1 by omega, List.drop_eq_getElem_cons k1]; rfl
      rw [e, catN (by simp; omega)]
      simp only [bind_ok]
      rw [show ((i : Int) + 1) = ((i + 1 : Nat) : Int) by omega, f7_l0_eq s ls k (i + 1) _ (by omega) (by simp; omega)]
      simp
    | false =>
      simp only [Bool.false_eq_true, if_false, bind_ok]
      rw [w64 (by omega) (by omega), show ((i : Int) + 1) = ((i + 1 : Nat) : Int) by omega, f7_l0_eq s ls k (i + 1) _ (by omega) (by omega)]
theorem f7_l1_eq (a : Str) (ts : List Token) (x y : Int × Int) (la : a.length ≤ 5000) (lt : ts.length ≤ 5000) (hat : ∀ t ∈ ts, 0 ≤ t.At ∧ t.At ≤ 5000) : ∀ (k i : Nat), i + k = ts.length → f7_l1 a (ts, x.1, x.2) (ts.map (fun t => t.at_ a.length), y.1, y.2) i = some (.nxt ())
  | 0, i, hk => by rw [f7_l1, if_neg (by simp <;> omega)]
  | k + 1, i, hk => by
    have k1 : i < ts.length := by omega
    have hb := hat _ (List.getElem_mem k1)
    rw [f7_l1, if_pos (by simp <;> omega), rd_nat (by simpa using k1), rd_nat k1]
    simp only [bind_ok, List.getElem_map]
    rw [if_neg (by simp [Token.at_]), if_neg (by simp [Token.at_]), w64 (by omega) (by omega), if_neg (by simp [Token.at_]), w64 (by omega) (by omega), show ((i : Int) + 1) = ((i + 1 : Nat) : Int) by omega]
    exact f7_l1_eq a ts x y la lt hat k (i + 1) (by omega)

theorem filter_nl (s : Str) : (s.filter nl).all nl = true := List.all_eq_true.2 (fun x hx => (List.mem_filter.1 hx).2)
theorem finT_e (T : Str) : (finT [] (tokS T 0)).2.2 = (match tokS T 0 with | .ok _ => 0 | .bad _ e => e) := by cases tokS T 0 <;> rfl
theorem f7_eq (s r : Str) (hs : s.length < 9223372036854775807) (hr : r.length < 9223372036854775807) : f7 s r = some true := by
  unfold f7
  rw [f10_eq]
  simp only [bind_ok, Bool.not_true, Bool.false_eq_true, if_false]
  by_cases h1 : s.length ≤ 2000
  · rw [if_neg (by rw [decide_eq_true_eq]; omega)]
    by_cases h2 : r.length ≤ 1000
    · rw [if_neg (by rw [decide_eq_true_eq]; omega)]
      have h0 := f7_l0_eq r h2 r.length 0 [] (by omega) (by simp)
      rw [show ((0 : Nat) : Int) = 0 from rfl, List.drop_zero, List.nil_append] at h0
      rw [h0]
      simp only [bind_ok]
      have hfl : (r.filter nl).length ≤ r.length := List.length_filter_le _ _
      have hnl := filter_nl r
      generalize r.filter nl = q at *
      have c1 : Bx.cat [32, 9, 59] q = some ([32, 9, 59] ++ q) := catN (by simp; omega)
      rw [c1]
      simp only [bind_ok]
      rw [catN (by simp; omega)]
      simp only [bind_ok]
      rw [catN (by simp; omega)]
      simp only [bind_ok]
      rw [catN (by simp; omega)]
      simp only [bind_ok]
      rw [catN (by simp; omega)]
      simp only [bind_ok]
      rw [f11_le (show s.length ≤ 4096 by omega), f11_le (by simp; omega)]
      simp only [bind_ok]
      have e : [32, 9, 59] ++ q ++ [10, 13] ++ s ++ [10, 59] ++ q = 32 :: 9 :: 59 :: (q ++ 10 :: 13 :: (s ++ 10 :: 59 :: q)) := by simp
      have ht : tokS ([32, 9, 59] ++ q ++ [10, 13] ++ s ++ [10, 59] ++ q) 0 = (tokS s 0).shift ((q.length : Int) + 5) := by
        rw [e, tok_ahead hnl, tok_behind hnl, tok_shift _ s.length s 0 (Nat.le_refl _)]
      rw [ht]
      have hal : ([32, 9, 59] ++ q ++ [10, 13]).length = q.length + 5 := by simp <;> omega
      generalize hA : [32, 9, 59] ++ q ++ [10, 13] = A at *
      have hAl : (A.length : Int) = (q.length : Int) + 5 := by omega
      rw [← hAl]
      cases hr : tokS s 0 with
      | bad a e =>
        have hb := tok_bad s a e hr
        have he := tok_err s.length s 0 a e (Nat.le_refl _) hr
        have hm : e ≠ 0 := he
        have hw : IntKind.i64.wrap (a + (A.length : Int)) = a + (A.length : Int) := w64 (by omega) (by omega)
        have hl : f7_l1 A ([], a, e) ([], a + (A.length : Int), e) 0 = some (.nxt ()) := by rw [f7_l1, if_neg (by simp)]
        simp [TR.shift, finT, hm, hw, hl]
      | ok ts =>
        have hp := tok_at s ts hr
        have hsm := (tok_small s 0 (by omega) ts hr).2
        have hat := Pl.at_ (by omega) hp
        have := f7_l1_eq A ts (0, 0) (0, 0) (by omega) (by omega) (fun t ht => by have := hat t ht; omega) ts.length 0 (by omega)
        rw [show ((0 : Nat) : Int) = 0 from rfl] at this
        simp [TR.shift, finT, this]
    · rw [if_pos (by rw [decide_eq_true_eq]; omega)]
  · rw [if_pos (by rw [decide_eq_true_eq]; omega)]
end Go.Bx.Scan

/- ScanBlanks: for every input that the statement speaks of the law returns true and leaves what it was handed. (Own text.) -/
namespace Go.Proofs.Ytgnhnfaojpjieaa
set_option linter.unusedVariables false
set_option linter.unusedSimpArgs false
set_option linter.unusedSectionVars false
open Go.Bx Go.Bx.Scan
open Go.Proofs Go.ChangeShapes Go.WideShapes Go.ChangeAt Go.RowKit
set_option linter.unusedVariables false

set_option maxRecDepth 100000 in
theorem lifted7 (os : Os) (started : os.Started) (H : Type) (enc : TypeId × Value → H) :
    ReturnsInHanded {} Try.checked os 7 .any (Rows.scanBlanksSpec.pre6 enc Try.prog Try.f7 Rows.scanBlanksRow.domain false) (Rows.scanBlanksSpec.post enc Try.prog Try.f7 false true false false) := by
  refine returnsInHanded_of_change_sized (C := Try.checked) own_ started (by kernel_rfl) Try.func7
    (ChangeSpec.witness6 (enc := enc) (C := Try.checked) false ⟨#[], #[.string ByteArray.empty, .string ByteArray.empty], []⟩ 8 (by kernel_rfl) (by kernel_rfl) (by kernel_rfl) (by kernel_rfl)) ?_
  intro W base args ds gs before hval0 hW hcnd hsz0 _
  have hsz : (DataW.weightsEach Try.prog (Try.f7.params.toList ++ Rows.scanBlanksSpec.plain.varTypes Try.prog) (ds ++ gs)).all (· ≤ reachBytes) = true := hsz0
  have hval : ∀ (j : Nat) t v, Try.f7.params[j]? = some t → args[j]? = some v → Value.okWide Try.prog W .any base t v := hval0
  have hW' := hW
  obtain ⟨p, q, hA0, hV, rfl, hfz, hnd⟩ := hW
  have hA : DataW.TrodAll enc Try.prog W 0 (fun _ => true) true Try.f7.params.toList args.toList ds p := hA0
  rw [Try.params7] at hA hval hsz
  obtain ⟨v0, vs0, d0, ds0, p0, q0, hargs, rfl, rfl, h0, r0⟩ := trodAll_cons hA
  obtain ⟨v1, vs1, d1, ds1, p1, q1, rfl, rfl, rfl, h1, r1⟩ := trodAll_cons r0
  obtain ⟨rfl, rfl, rfl⟩ := trodAll_nil r1
  obtain rfl : args = #[v0, v1] := by cases args; simp_all
  obtain ⟨rfl, rfl⟩ := trodVars_none hV
  have lt0 : ∀ x ∈ p0, x.block < W.heap.size := by obtain ⟨m, hm⟩ := h0; exact DataW.trod_lt m _ _ _ hm
  have k0 := h0
  have lt1 : ∀ x ∈ p1, x.block < W.heap.size := by obtain ⟨m, hm⟩ := h1; exact DataW.trod_lt m _ _ _ hm
  have k1 := h1
  have wt : ∀ (j : Nat) t (d : DataW H), ([9, 9] : List Nat)[j]? = some t → [d0, d1][j]? = some d → ∀ z ∈ d.weights Try.prog t, z ≤ reachBytes := by
    intro j t d ht hd z hz
    have := List.all_eq_true.1 hsz z (DataW.weights_mem_each (j := j) (t := t) (d := d) (by rw [List.getElem?_append_left]; exact ht; exact (List.getElem?_eq_some_iff.1 ht).1) (by rw [List.getElem?_append_left]; exact hd; exact (List.getElem?_eq_some_iff.1 hd).1) z hz)
    simpa using this
  obtain ⟨t0, rfl⟩ := okWide_string Try.underlying9 (hval 0 9 v0 rfl rfl)
  obtain ⟨t1, rfl⟩ := okWide_string Try.underlying9 (hval 1 9 v1 rfl rfl)
  obtain ⟨m0, hm0⟩ := h0
  obtain ⟨xs0, e0, _, s0⟩ := read_rep tabOK 8 9 (by decide) m0 _ _ hm0 (wt 0 9 d0 rfl rfl)
  obtain ⟨x0, rfl, b0⟩ := shape_str (T := tab) (t := 9) rfl s0
  obtain ⟨m1, hm1⟩ := h1
  obtain ⟨xs1, e1, _, s1⟩ := read_rep tabOK 8 9 (by decide) m1 _ _ hm1 (wt 1 9 d1 rfl rfl)
  obtain ⟨x1, rfl, b1⟩ := shape_str (T := tab) (t := 9) rfl s1
  have hcall := f7_ok x0 x1 true (f7_eq x0 x1 (Nat.lt_of_le_of_lt b0 (by decide)) (Nat.lt_of_le_of_lt b1 (by decide)))
  refine (law_pure (E := E) (W := W) (fun _ => .junk) hcall ((e0).append (e1))).mono fun e W' ⟨he, bel⟩ => ?_
  subst he
  exact ⟨_, rfl, _, _, _, [], _, [], hW', trodAll_mk1 (shut_bool Try.underlying4 _), (trodAll_cons_mk (Below.trod laidOut (by kernel_rfl) (of_decide_eq_true (by kernel_rfl)) k0 bel lt0) (trodAll_cons_mk (Below.trod laidOut (by kernel_rfl) (of_decide_eq_true (by kernel_rfl)) k1 bel lt1) trodAll_mk0)), rfl, bel.frame _, fun h => by cases h⟩

theorem over7 : Rows.scanBlanksRow.holds Try.pinned (OpenSpec.ofChange Rows.scanBlanksSpec) :=
  OpenClaim.holds_of_wide 7 Try.f7 rfl rfl rfl rfl rfl rfl rfl ⟨rfl, rfl, rfl, rfl, rfl⟩ rfl rfl rfl rfl rfl (by kernel_rfl) Try.func7 (by kernel_rfl)
    (of_decide_eq_true (by kernel_rfl)) (by unfold Func.isWrapper; first | (rw [if_pos (by decide +kernel)]; kernel_rfl) | (rw [if_neg (by decide +kernel)]; exact ⟨rfl, rfl⟩))
    (fun os started H enc _ => lifted7 os started H enc)
/-- ScanBlanks, as the statement says. -/
theorem scanBlanks_holds : Rows.ScanBlanksSaid := over7
#print axioms scanBlanks_holds
end Go.Proofs.Ytgnhnfaojpjieaa
