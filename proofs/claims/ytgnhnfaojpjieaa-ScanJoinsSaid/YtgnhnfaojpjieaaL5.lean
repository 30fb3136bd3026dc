/- What the program's functions compute, shown of their code (L5). Own text; parts are printed by a program of this claim's author. -/
import Derived.Test.YtgnhnfaojpjieaaW5
namespace Go.Bx.Scan
set_option linter.unusedVariables false
set_option linter.unusedSimpArgs false
set_option linter.unusedSectionVars false
open Go.Proofs
set_option linter.unusedSimpArgs false
set_option linter.unusedVariables false
set_option maxRecDepth 10000
set_option maxHeartbeats 4000000
def f17_l0 (ts : List Token) (i : Int) : Option (Ou (Str × Int) Unit) :=
 if (decide (i < (ts.length : Int))) = true then
  (rd ts i >>= fun e3 =>
  f30 (⟨e3.Kind, e3.Text, (⟨e3.N.Neg, e3.N.Num, e3.N.Den⟩ : Ratio), e3.At⟩ : Token) >>= fun r4 =>
  if (!r4) = true then
   (some (.ret ([], 40)))
  else
   f17_l0 ts (IntKind.i64.wrap (i + 1)))
 else
  some (.nxt ())
 partial_fixpoint
def f17_l1 (ts : List Token) (s : Str) (i : Int) : Option (Ou (Str × Int) Str) :=
 if (decide (i < (ts.length : Int))) = true then
  ((if (decide (i > 0)) = true then
   (cat s [32] >>= fun s10 =>
   rd ts i >>= fun e11 =>
   cat s10 e11.Text >>= fun s12 =>
   if (decide ((s12.length : Int) > 4096)) = true then
    (some (.ret ([], 3)))
   else
    some (.nxt s12))
  else
   rd ts i >>= fun e14 =>
   cat s e14.Text >>= fun s15 =>
   if (decide ((s15.length : Int) > 4096)) = true then
    (some (.ret ([], 3)))
   else
    some (.nxt s15) : Option (Ou (Str × Int) Str)) >>= fun o8 => match o8 with
  | .ret r0 => some (.ret r0)
  | .nxt wo8 =>
   f17_l1 ts wo8 (IntKind.i64.wrap (i + 1)))
 else
  some (.nxt s)
 partial_fixpoint
/-- sibyl/sibylref04.Join -/
def f17 (ts : List Token) : Option (Str × Int) :=
 f17_l0 ts 0 >>= fun o1 => match o1 with
 | .ret r0 => some r0
 | .nxt wo1 =>
  f17_l1 ts [] 0 >>= fun o6 => match o6 with
  | .ret r0 => some r0
  | .nxt wo6 =>
   some (wo6, 0)
noncomputable def f17_ci : CI := (CI.or 30 f30_tbl (fun _ _ _ => none))
theorem f17_ci_ok (base : Nat) : CIOK E base f17_ci := (or_ok f30_tbl_ok no_ok)
theorem f17_res : Try.f17.results = #[.tmp 2, .tmp 3] := rfl
theorem f17_rt : Try.f17.resultTypes = #[9, 3] := rfl
theorem f17_l0_ok {base : Nat} {c00 : Ctx} (ts : List Token) (hU : Under E base c00 nilStore) : ∀ (i : Int) (o1 : Ou (Str × Int) Unit), f17_l0 ts i = some o1 →
  WpL E base c00 nilStore (lb Try.f17 0) ⟨.sl (List.map cToken ts) :: jj 3 (.v (.int .i64 i) :: jj 35 []), St [], none, 0⟩ (fun ex s1 => match o1 with | .ret r0 => ex = .ret ∧ Rt E base c00 Try.f17 (.tup [.v (.string (mkS r0.1)), .v (.int .i64 r0.2)]) s1 | .nxt wo1 => ex = .exit 0 ∧ Wk base c00 nilStore s1 ⟨.sl (List.map cToken ts) :: jj 39 [], St [], none, 0⟩) := by
 refine f17_l0.partial_correctness ts _ ?_
 intro lp__ ih i o1 h
 refine WpL.stepE (lbI Try.f17.eq_1) ?_
 refine Wp.seq <| rs hU (f17_ci_ok _) rgI <| ?_
 refine Wp.cond hU (t := decide (i < (ts.length : Int))) rfl (fun hc2 => ?_) (fun hc2 => ?_)
 ·rw [if_t hc2] at h
  refine Wp.skip <| thenN <| Wp.seq <| Wp.block <| Wp.seq <| ?_
  obtain ⟨e3, he3, h⟩ := bind_some h
  obtain ⟨he3a, he3b, he3c⟩ := rd_some he3
  obtain ⟨r4, hr4, h⟩ := bind_some h
  have hr4c := fun σ => show f17_ci 30 _ σ = _ from f30_call hr4 σ
  have fx := i5 he3a he3b he3c hr4c hc2
  refine rq hU (f17_ci_ok _) rgIF <| thenN <| ?_
  refine Wp.cond hU (t := !r4) rfl (fun hc5 => ?_) (fun hc5 => ?_)
  ·rw [if_t hc5] at h
   refine Wp.seq <| ?_
   have fx := i2 hc2 hc5
   refine rq hU (f17_ci_ok _) rgIF <| thenN <| Wp.ret <| blkR <| thenR <| againR <| ?_
   obtain rfl := sj h
   refine ⟨rfl, ?_⟩
   refine Rt.of <| ?_
   have fx := i2 f17_res f17_rt
   exact rtI
  ·rw [if_f hc5] at h
   refine Wp.skip <| blkN <| thenN <| ?_
   have fx := i2 hc2 hc5
   refine rq hU (f17_ci_ok _) rgIF <| againN <| ?_
   refine Wk.wpL ?_ (ih (IntKind.i64.wrap (i + 1)) _ h)
   exact Wk.weak hU [] _ (by decide) .nil wvI
 ·rw [if_f hc2] at h
  refine Wp.exit <| thenE <| againE <| ?_
  obtain rfl := sj h
  refine ⟨rfl, ?_⟩
  exact Wk.weak hU [] _ (by decide) .nil wvI
theorem f17_l1_ok {base : Nat} {c00 : Ctx} (ts : List Token) (hU : Under E base c00 nilStore) : ∀ (s : Str) (i : Int) (o6 : Ou (Str × Int) Str), f17_l1 ts s i = some o6 →
  WpL E base c00 nilStore (lb Try.f17 1) ⟨.sl (List.map cToken ts) :: jj 4 (.v (.string (mkS s)) :: .v (.int .i64 i) :: jj 33 []), St [], none, 0⟩ (fun ex s1 => match o6 with | .ret r0 => ex = .ret ∧ Rt E base c00 Try.f17 (.tup [.v (.string (mkS r0.1)), .v (.int .i64 r0.2)]) s1 | .nxt wo6 => ex = .exit 2 ∧ Wk base c00 nilStore s1 ⟨jj 5 (.v (.string (mkS wo6)) :: jj 34 []), St [], none, 0⟩) := by
 refine f17_l1.partial_correctness ts _ ?_
 intro lp__ ih s i o6 h
 refine WpL.stepE (lbI Try.f17.eq_1) ?_
 refine Wp.seq <| rs hU (f17_ci_ok _) rgI <| ?_
 refine Wp.cond hU (t := decide (i < (ts.length : Int))) rfl (fun hc7 => ?_) (fun hc7 => ?_)
 ·rw [if_t hc7] at h
  refine Wp.skip <| thenN <| ?_
  obtain ⟨o8, ho8, h⟩ := bind_some h
  refine Wp.seq1 (JP := (fun ex s1 => match o8 with | .ret r0 => ex = .ret ∧ Rt E base c00 Try.f17 (.tup [.v (.string (mkS r0.1)), .v (.int .i64 r0.2)]) s1 | .nxt wo8 => ex = .nrm ∧ Wk base c00 nilStore s1 ⟨.sl (List.map cToken ts) :: jj 4 (.v (.string (mkS wo8)) :: .v (.int .i64 i) :: jj 33 []), St [], none, 0⟩)) ?_ (fun ex s1 hp => ?_)
  ·replace h := ho8
   refine Wp.block <| Wp.seq <| Wp.seq <| ?_
   have fx := hc7
   refine rq hU (f17_ci_ok _) rgIF <| thenN <| ?_
   refine Wp.cond hU (t := decide (i > 0)) rfl (fun hc9 => ?_) (fun hc9 => ?_)
   ·rw [if_t hc9] at h
    obtain ⟨s10, hs10, h⟩ := bind_some h
    obtain ⟨hs10a, hs10b⟩ := cat_some hs10
    try simp only [List.length_cons, List.length_nil, Nat.zero_add, Nat.add_zero, Nat.reduceAdd] at hs10a
    have fx := i3 hs10a hc7 hc9
    refine rq hU (f17_ci_ok _) rgIF <| thenN <| ?_
    refine Wk.wp (s2 := ⟨.sl (List.map cToken ts) :: jj 4 (.v (.string (mkS s10)) :: .v (.int .i64 i) :: jj 33 []), St [], none, 0⟩) ?_ ?_
    ·have fe := hs10b
     have fl := hs10b
     have fv := nofx
     exact Wk.weak hU [] _ (by decide) .nil wvIF
    refine Wp.seq <| ?_
    obtain ⟨e11, he11, h⟩ := bind_some h
    obtain ⟨he11a, he11b, he11c⟩ := rd_some he11
    obtain ⟨s12, hs12, h⟩ := bind_some h
    obtain ⟨hs12a, hs12b⟩ := cat_some hs12
    try simp only [List.length_cons, List.length_nil, Nat.zero_add, Nat.add_zero, Nat.reduceAdd] at hs12a
    have fx := i6 he11a he11b he11c hs12a hc7 hc9
    refine rq hU (f17_ci_ok _) rgIF <| thenN <| ?_
    refine Wk.wp (s2 := ⟨.sl (List.map cToken ts) :: jj 4 (.v (.string (mkS s12)) :: .v (.int .i64 i) :: jj 33 []), St [], none, 0⟩) ?_ ?_
    ·have fe := i2 hs10b hs12b
     have fl := i2 hs10b hs12b
     have fv := nofx
     exact Wk.weak hU [] _ (by decide) .nil wvIF
    refine Wp.seq <| ?_
    have fx := i2 hc7 hc9
    refine rq hU (f17_ci_ok _) rgIF <| thenN <| ?_
    refine Wp.cond hU (t := decide ((s12.length : Int) > 4096)) rfl (fun hc13 => ?_) (fun hc13 => ?_)
    ·rw [if_t hc13] at h
     refine Wp.seq <| ?_
     have fx := i3 hc7 hc9 hc13
     refine rq hU (f17_ci_ok _) rgIF <| thenN <| Wp.ret <| blkR <| ?_
     obtain rfl := sj h
     refine ⟨rfl, ?_⟩
     refine Rt.of <| ?_
     have fx := i4 f17_res f17_rt hs10b hs12b
     exact rtI
    ·rw [if_f hc13] at h
     refine Wp.skip <| blkN <| ?_
     obtain rfl := sj h
     refine ⟨rfl, ?_⟩
     have fe := i2 hs10b hs12b
     have fl := i2 hs10b hs12b
     have fv := nofx
     exact Wk.weak hU [] _ (by decide) .nil wvIF
   ·rw [if_f hc9] at h
    refine Wp.skip <| thenN <| Wp.seq <| ?_
    obtain ⟨e14, he14, h⟩ := bind_some h
    obtain ⟨he14a, he14b, he14c⟩ := rd_some he14
    obtain ⟨s15, hs15, h⟩ := bind_some h
    obtain ⟨hs15a, hs15b⟩ := cat_some hs15
    try simp only [List.length_cons, List.length_nil, Nat.zero_add, Nat.add_zero, Nat.reduceAdd] at hs15a
    have fx := i6 he14a he14b he14c hs15a hc7 hc9
    refine rq hU (f17_ci_ok _) rgIF <| thenN <| ?_
    refine Wk.wp (s2 := ⟨.sl (List.map cToken ts) :: jj 4 (.v (.string (mkS s15)) :: .v (.int .i64 i) :: jj 33 []), St [], none, 0⟩) ?_ ?_
    ·have fe := hs15b
     have fl := hs15b
     have fv := nofx
     exact Wk.weak hU [] _ (by decide) .nil wvIF
    refine Wp.seq <| ?_
    have fx := i2 hc7 hc9
    refine rq hU (f17_ci_ok _) rgIF <| thenN <| ?_
    refine Wp.cond hU (t := decide ((s15.length : Int) > 4096)) rfl (fun hc16 => ?_) (fun hc16 => ?_)
    ·rw [if_t hc16] at h
     refine Wp.seq <| ?_
     have fx := i3 hc7 hc9 hc16
     refine rq hU (f17_ci_ok _) rgIF <| thenN <| Wp.ret <| blkR <| ?_
     obtain rfl := sj h
     refine ⟨rfl, ?_⟩
     refine Rt.of <| ?_
     have fx := i3 f17_res f17_rt hs15b
     exact rtI
    ·rw [if_f hc16] at h
     refine Wp.skip <| blkN <| ?_
     obtain rfl := sj h
     refine ⟨rfl, ?_⟩
     have fe := hs15b
     have fl := hs15b
     have fv := nofx
     exact Wk.weak hU [] _ (by decide) .nil wvIF
  ·cases o8 with
   | ret r0 =>
    obtain ⟨rfl, hp⟩ := hp
    obtain rfl := sj h
    refine thenR <| againR <| ?_
    exact ⟨rfl, hp⟩
   | nxt wo8 =>
    obtain ⟨rfl, hp⟩ := hp
    dsimp only at h
    refine thenN (hp.wp ?_)
    have fx := hc7
    refine rq hU (f17_ci_ok _) rgIF <| againN <| ?_
    refine Wk.wpL ?_ (ih wo8 (IntKind.i64.wrap (i + 1)) _ h)
    exact Wk.weak hU [] _ (by decide) .nil wvI
 ·rw [if_f hc7] at h
  refine Wp.exit <| thenE <| againE <| ?_
  obtain rfl := sj h
  refine ⟨rfl, ?_⟩
  exact Wk.weak hU [] _ (by decide) .nil wvI
theorem f17_ok (ts : List Token) (r : Str × Int) (h : f17 ts = some r) : PureOK E 17 [.sl (List.map cToken ts)] (.tup [.v (.string (mkS r.1)), .v (.int .i64 r.2)]) := by
 unfold f17 at h
 refine pof (fn := Try.f17) (nt := 40) Try.func17 rfl rfl rfl rfl (fun _ => rfl) (fun base c00 hU => ?_)
 refine Wk.wp (s2 := ⟨.sl (List.map cToken ts) :: jj 39 [], St [], none, 0⟩) ?_ ?_
 ·exact Wk.weak hU [] _ (by decide) .nil wvS
 refine rs hU (f17_ci_ok _) rgI <| Wp.seq <| rs hU (f17_ci_ok _) rgI <| Wp.block <| ?_
 obtain ⟨o1, ho1, h⟩ := bind_some h
 refine Wp.loop <| ?_
 refine Tw.mono (Wk.wpL (s2 := ⟨.sl (List.map cToken ts) :: jj 3 (.v (.int .i64 0) :: jj 35 []), St [], none, 0⟩) ?_ (f17_l0_ok ts hU 0 o1 ho1)) (fun ex s1 hp => ?_)
 ·exact Wk.weak hU [] _ (by decide) .nil wvI
 ·cases o1 with
  | ret r0 =>
   obtain ⟨rfl, hp⟩ := hp
   obtain rfl := sj h
   refine blkR <| thenR <| ?_
   exact ⟨.inl rfl, hp⟩
  | nxt wo1 =>
   obtain ⟨rfl, hp⟩ := hp
   dsimp only at h
   refine blkE <| thenN <| hp.wp <| rs hU (f17_ci_ok _) rgI <| Wp.seq <| rs hU (f17_ci_ok _) rgI <| Wp.block <| ?_
   obtain ⟨o6, ho6, h⟩ := bind_some h
   refine Wp.loop <| ?_
   refine Tw.mono (Wk.wpL (s2 := ⟨.sl (List.map cToken ts) :: jj 4 (.v (.string (mkS [])) :: .v (.int .i64 0) :: jj 33 []), St [], none, 0⟩) ?_ (f17_l1_ok ts hU [] 0 o6 ho6)) (fun ex s1 hp => ?_)
   ·exact Wk.weak hU [] _ (by decide) .nil wvI
   ·cases o6 with
    | ret r0 =>
     obtain ⟨rfl, hp⟩ := hp
     obtain rfl := sj h
     refine blkR <| thenR <| ?_
     exact ⟨.inl rfl, hp⟩
    | nxt wo6 =>
     obtain ⟨rfl, hp⟩ := hp
     dsimp only at h
     refine blkE <| thenN <| hp.wp <| rs hU (f17_ci_ok _) rgI <| Wp.ret <| ?_
     obtain rfl := sj h
     refine ⟨.inl rfl, ?_⟩
     refine Rt.of <| ?_
     have fx := i2 f17_res f17_rt
     exact rtI
noncomputable def f17_tbl : CI := tbl 17 (fun p : (List Token) => [.sl (List.map cToken p)]) (fun p => (f17 p).map fun r => .tup [.v (.string (mkS r.1)), .v (.int .i64 r.2)])
theorem f17_tbl_ok {base : Nat} : CIOK E base f17_tbl := tbl_okM fun p q h => f17_ok p q h
theorem f17_call {ts : List Token} {r : Str × Int} (h : f17 ts = some r) (σ : Store) : f17_tbl 17 [.sl (List.map cToken ts)] σ = some (.tup [.v (.string (mkS r.1)), .v (.int .i64 r.2)], σ, none) :=
 tbl_eq (x := (ts)) (fun x y e => by
  exact av_sl injToken (List.cons.inj e).1) (by simp [h]) σ
/-- sibyl/sibyllaw04.ScanJoins -/
def f5 (ts : List Token) : Option (Bool) :=
 f10 >>= fun r1 =>
 if (!r1) = true then
  (some false)
 else
  ap 88 [] ts >>= fun a3 =>
  f16 a3 >>= fun r4 =>
  f17 ts >>= fun r5 =>
  (if (r4.1 == r5.1) = true then
   (some (r4.2 == r5.2))
  else
   some false : Option (Bool)) >>= fun o6 =>
  some o6
noncomputable def f5_ci : CI := (CI.or 10 f10_tbl (CI.or 16 f16_tbl (CI.or 17 f17_tbl (fun _ _ _ => none))))
theorem f5_ci_ok (base : Nat) : CIOK E base f5_ci := (or_ok f10_tbl_ok (or_ok f16_tbl_ok (or_ok f17_tbl_ok no_ok)))
theorem f5_res : Try.f5.results = #[.tmp 2] := rfl
theorem f5_rt : Try.f5.resultTypes = #[4] := rfl
theorem f5_ok (ts : List Token) (r : Bool) (h : f5 ts = some r) : PureOK E 5 [.sl (List.map cToken ts)] (.v (.bool r)) := by
 unfold f5 at h
 refine pof (fn := Try.f5) (nt := 31) Try.func5 rfl rfl rfl rfl (fun _ => rfl) (fun base c00 hU => ?_)
 refine Wk.wp (s2 := ⟨.sl (List.map cToken ts) :: jj 30 [], St [], none, 0⟩) ?_ ?_
 ·exact Wk.weak hU [] _ (by decide) .nil wvS
 refine rs hU (f5_ci_ok _) rgI <| Wp.seq <| Wp.seq <| ?_
 obtain ⟨r1, hr1, h⟩ := bind_some h
 have hr1c := fun σ => show f5_ci 10 _ σ = _ from f10_call hr1 σ
 have fx := hr1c
 refine rq hU (f5_ci_ok _) rgIF <| thenN <| ?_
 refine Wp.cond hU (t := !r1) rfl (fun hc2 => ?_) (fun hc2 => ?_)
 ·rw [if_t hc2] at h
  refine Wp.seq <| ?_
  have fx := hc2
  refine rq hU (f5_ci_ok _) rgIF <| thenN <| Wp.ret <| thenR <| ?_
  obtain rfl := sj h
  refine ⟨.inl rfl, ?_⟩
  refine Rt.of <| ?_
  have fx := i2 f5_res f5_rt
  exact rtI
 ·rw [if_f hc2] at h
  refine Wp.skip <| thenN <| Wp.seq <| ?_
  obtain ⟨a3, ha3, h⟩ := bind_some h
  obtain ⟨ha3a, ha3b⟩ := ap_some ha3
  try simp only [List.length_cons, List.length_nil, Nat.zero_add, Nat.add_zero, Nat.reduceAdd] at ha3a
  have fx := i2 ha3a hc2
  refine rq hU (f5_ci_ok _) rgIF <| thenN <| ?_
  refine Wk.wp (s2 := ⟨.sl (List.map cToken ts) :: jj 2 (.row 0 6 0 ((a3).length) :: jj 27 []), St [some ⟨6, false, true, List.map cToken a3⟩], none, 0⟩) ?_ ?_
  ·have fe := ha3b
   have fl := ha3b
   have fv := nofx
   exact Wk.weak hU [some 1] _ (by decide) wsIF wvIF
  refine Wp.seq <| ?_
  obtain ⟨r4, hr4, h⟩ := bind_some h
  have hr4c := fun σ => show f5_ci 16 _ σ = _ from f16_call hr4 σ
  have fx := i2 hr4c hc2
  refine rq hU (f5_ci_ok _) rgIF <| thenN <| Wp.seq <| ?_
  obtain ⟨r5, hr5, h⟩ := bind_some h
  have hr5c := fun σ => show f5_ci 17 _ σ = _ from f17_call hr5 σ
  have fx := i2 hr5c hc2
  refine rq hU (f5_ci_ok _) rgIF <| thenN <| ?_
  obtain ⟨o6, ho6, h⟩ := bind_some h
  refine Wp.seq1 (JP := (fun ex s1 => ex = .nrm ∧ Wk base c00 nilStore s1 ⟨jj 2 (.v (.bool o6) :: jj 28 []), St [], none, 0⟩)) ?_ (fun ex s1 hp => ?_)
  ·replace h := ho6
   rcases Bool.eq_false_or_eq_true (r4.1 == r5.1) with hg3 | hg3
   ·rw [if_t hg3] at h
    have fx := i2 hc2 hg3
    refine rq hU (f5_ci_ok _) rgIF <| ?_
    obtain rfl := sj h
    refine ⟨rfl, ?_⟩
    have fe := ha3b
    have fl := ha3b
    have fv := nofx
    exact Wk.weak hU [] _ (by decide) .nil wvIF
   ·rw [if_f hg3] at h
    have fx := i2 hc2 hg3
    refine rq hU (f5_ci_ok _) rgIF <| ?_
    obtain rfl := sj h
    refine ⟨rfl, ?_⟩
    have fe := ha3b
    have fl := ha3b
    have fv := nofx
    exact Wk.weak hU [] _ (by decide) .nil wvIF
  ·obtain ⟨rfl, hp⟩ := hp
   refine thenN (hp.wp ?_)
   refine Wp.ret <| ?_
   obtain rfl := sj h
   refine ⟨.inl rfl, ?_⟩
   refine Rt.of <| ?_
   have fx := i3 f5_res f5_rt ha3b
   exact rtI
noncomputable def f5_tbl : CI := tbl 5 (fun p : (List Token) => [.sl (List.map cToken p)]) (fun p => (f5 p).map fun r => .v (.bool r))
theorem f5_tbl_ok {base : Nat} : CIOK E base f5_tbl := tbl_okM fun p q h => f5_ok p q h
theorem f5_call {ts : List Token} {r : Bool} (h : f5 ts = some r) (σ : Store) : f5_tbl 5 [.sl (List.map cToken ts)] σ = some (.v (.bool r), σ, none) :=
 tbl_eq (x := (ts)) (fun x y e => by
  exact av_sl injToken (List.cons.inj e).1) (by simp [h]) σ
end Go.Bx.Scan

/- ScanJoins in plain Lean: which tokens can come out of a text; tokens put together. (Own text.) -/
namespace Go.Bx.Scan
set_option linter.unusedVariables false
set_option linter.unusedSimpArgs false
set_option linter.unusedSectionVars false
open Go.Proofs
set_option linter.unusedVariables false
set_option linter.unusedSimpArgs false

/-! ### a run that is told is no delimiter anywhere -/
theorem byteAll {P : UInt8 → Prop} [DecidablePred P] (h : ∀ n : Fin 256, P (UInt8.ofNat n.val)) (b : UInt8) : P b := by
  have := h ⟨b.toNat, b.toNat_lt⟩
  have e : UInt8.ofNat b.toNat = b := by simp
  rw [← e]; exact this
theorem goes_notD (b : UInt8) : goesB b = true → notD b = true := byteAll (P := fun b => goesB b = true → notD b = true) (by decide +kernel) b
theorem dig_notD (b : UInt8) : isDig b = true → notD b = true := byteAll (P := fun b => isDig b = true → notD b = true) (by decide +kernel) b
theorem begins_notD (b : UInt8) : beginsB b = true → notD b = true := fun h => goes_notD b (by unfold goesB; rw [h]; rfl)
theorem all_mono {p q : UInt8 → Bool} (h : ∀ b, p b = true → q b = true) {l : Str} (hl : l.all p = true) : l.all q = true := List.all_eq_true.2 (fun x hx => h x (List.all_eq_true.1 hl x hx))
theorem shape_notD {s : Str} (h : shapeB s = true) : s ≠ [] ∧ s.all notD = true := by
  unfold shapeB at h
  simp only [Bool.or_eq_true, beq_iff_eq] at h
  rcases h with (h | h) | h
  · subst h; exact ⟨by simp, by decide⟩
  · subst h; exact ⟨by simp, by decide⟩
  · cases s with
    | nil => cases h
    | cons b r =>
      simp only [Bool.and_eq_true] at h
      exact ⟨by simp, by rw [List.all_cons, begins_notD b h.1, all_mono goes_notD h.2]; rfl⟩
theorem cut_notD {T : Str} (h : cutOK T = true) : T ≠ [] ∧ T.all notD = true := by
  unfold cutOK at h
  simp only [Bool.and_eq_true, decide_eq_true_eq] at h
  have hn := all_mono dig_notD h.1.1.1.1
  have hd := all_mono dig_notD h.1.1.2
  have hne : T ≠ [] := by
    intro e; subst e; simp [numOf] at h
  refine ⟨hne, ?_⟩
  by_cases hl : (numOf T).length < T.length
  · have e : T = numOf T ++ T[(numOf T).length] :: denOf T := by
      conv => lhs; rw [← List.take_append_drop (numOf T).length T, numOf_take, List.drop_eq_getElem_cons hl]
      unfold denOf; rw [if_pos hl]
    have h47 : T[(numOf T).length] = 47 := by
      have key : ∀ (T : Str) (h : (T.takeWhile isNs).length < T.length), T[(T.takeWhile isNs).length] = 47 := by
        intro T
        induction T with
        | nil => intro h; simp at h
        | cons b l ih =>
          intro h
          by_cases hb : b = 47
          · subst hb; rfl
          · have e : isNs b = true := by simp [isNs, hb]
            have e2 : ((b :: l).takeWhile isNs) = b :: l.takeWhile isNs := by rw [List.takeWhile_cons, if_pos e]
            simp only [e2, List.length_cons, List.getElem_cons_succ] at h ⊢
            exact ih (by omega)
      exact key T hl
    rw [e, h47, List.all_append, List.all_cons, hn, hd]; rfl
  · have := numOf_take T
    rw [List.take_of_length_le (by omega)] at this
    rw [this]; exact hn
theorem strip_notD {s : Str} (h : (strip s).1 ≠ [] ∧ (strip s).1.all notD = true) : s ≠ [] ∧ s.all notD = true := by
  cases s with
  | nil => exact absurd rfl h.1
  | cons b l =>
    refine ⟨by simp, ?_⟩
    unfold strip at h
    by_cases h1 : b = 43
    · subst h1; simp at h; rw [List.all_cons]; rw [show notD 43 = true by decide]; simpa using h.2
    · by_cases h2 : b = 45
      · subst h2; simp at h; rw [List.all_cons]; rw [show notD 45 = true by decide]; simpa using h.2
      · simpa [h1, h2] using h
theorem kind_notD {s : Str} (ls : s.length ≤ 4096) (h : (kindS s).2.2 = 0) : s ≠ [] ∧ s.all notD = true := by
  have hk := (kind_eq s ls).1
  unfold f22 at hk
  by_cases h1 : s = [46]
  · subst h1; exact ⟨by simp, by decide⟩
  by_cases h2 : s = [35, 116]
  · subst h2; exact ⟨by simp, by decide⟩
  by_cases h3 : s = [35, 102]
  · subst h3; exact ⟨by simp, by decide⟩
  have e1 : (s == [46]) = false := beq_eq_false_iff_ne.2 h1
  have e2 : (s == [35, 116]) = false := beq_eq_false_iff_ne.2 h2
  have e3 : (s == [35, 102]) = false := beq_eq_false_iff_ne.2 h3
  simp only [e1, e2, e3, Bool.false_eq_true, if_false] at hk
  rw [f34_eq s (by omega)] at hk
  simp only [bind_ok] at hk
  cases hc : cutOK (strip s).1 with
  | true => exact strip_notD (cut_notD hc)
  | false =>
    rw [hc] at hk
    simp only [Bool.false_eq_true, if_false] at hk
    rw [f25_eq s (by omega)] at hk
    simp only [bind_ok] at hk
    cases hs : shapeB s with
    | true => exact shape_notD hs
    | false =>
      rw [hs] at hk
      simp only [Bool.not_false, if_true] at hk
      have := Option.some.inj hk
      rw [← this] at h; simp at h

/-! ### one token -/
theorem tok_len : ∀ (n : Nat) (l : Str) (i : Int) (ts : List Token), l.length ≤ n → tokS l i = .ok ts → ∀ t ∈ ts, t.Text.length ≤ l.length
  | n, [], i, ts, hl, h => by rw [tok_nil] at h; cases h; intro t ht; simp at ht
  | 0, c :: r, i, ts, hl, h => by simp at hl
  | n + 1, c :: r, i, ts, hl, h => by
    rw [List.length_cons] at hl
    have hcons : ∀ (t : Token) (m : Str) (j : Int), m.length ≤ n → m.length ≤ r.length → t.Text.length ≤ r.length + 1 → TR.cons t (tokS m j) = .ok ts → ∀ t ∈ ts, t.Text.length ≤ r.length + 1 := fun t m j hm hmr ht h => by
      cases hr : tokS m j with
      | bad a e => rw [hr] at h; cases h
      | ok us =>
        rw [hr] at h; cases h
        intro u hu
        rcases List.mem_cons.1 hu with rfl | hu
        · exact ht
        · have := tok_len n m j us hm hr u hu; omega
    rw [List.length_cons]
    by_cases h59 : c = 59
    · subst h59
      have hle := (List.dropWhile_suffix nl (l := r)).length_le
      rw [tok_rem] at h
      intro t ht
      have := tok_len n _ _ ts (by omega) h t ht; omega
    · cases hs : isSig c with
      | true => rw [tok_sig _ hs] at h; exact hcons _ _ _ (by omega) (Nat.le_refl _) (by simp) h
      | false =>
        cases hd : isDelim c with
        | true =>
          rw [tok_blank _ h59 hs hd] at h
          intro t ht
          have := tok_len n _ _ ts (by omega) h t ht; omega
        | false =>
          have hle := (List.dropWhile_suffix notD (l := r)).length_le
          have htl := (List.takeWhile_prefix (l := r) notD).length_le
          rw [tok_word _ hd] at h
          split at h
          · exact hcons _ _ _ (by omega) hle (by simp; omega) h
          · cases h
/-- A text that is one token, itself. -/
theorem tok_one_sig {c : UInt8} (h : isSig c = true) (i : Int) : tokS [c] i = .ok [⟨sgn c, [c], nil0, i⟩] := by rw [tok_sig _ h, tok_nil]; rfl
theorem tok_one_word {s : Str} (h0 : s ≠ []) (h : s.all notD = true) (i : Int) : tokS s i = if (kindS s).2.2 = 0 then .ok [⟨(kindS s).1, s, (kindS s).2.1, i⟩] else .bad i (kindS s).2.2 := by
  cases s with
  | nil => exact absurd rfl h0
  | cons c r =>
    rw [List.all_cons, Bool.and_eq_true] at h
    have hd : isDelim c = false := by have := h.1; unfold notD at this; simpa using this
    rw [tok_word _ hd, tw_all h.2, dw_all h.2, tok_nil]; rfl
theorem one_cases {s : Str} {i : Int} {x : Token} (h : tokS s i = .ok [x]) (hx : x.Text = s) : (∃ c, s = [c] ∧ isSig c = true ∧ x.Kind = sgn c) ∨ (s ≠ [] ∧ s.all notD = true ∧ (kindS s).2.2 = 0 ∧ x.Kind = (kindS s).1) := by
  cases s with
  | nil => rw [tok_nil] at h; cases h
  | cons c r =>
    by_cases h59 : c = 59
    · subst h59
      rw [tok_rem] at h
      have hle := (List.dropWhile_suffix nl (l := r)).length_le
      have := tok_len _ _ _ _ (Nat.le_refl _) h x (by simp)
      rw [hx, List.length_cons] at this; omega
    · cases hs : isSig c with
      | true =>
        rw [tok_sig _ hs] at h
        left
        cases hr : tokS r (i + 1) with
        | bad a e => rw [hr] at h; cases h
        | ok us =>
          rw [hr] at h; cases h
          have : r = [] := by simpa using hx
          subst this; exact ⟨c, rfl, hs, rfl⟩
      | false =>
        cases hd : isDelim c with
        | true =>
          rw [tok_blank _ h59 hs hd] at h
          have := tok_len _ _ _ _ (Nat.le_refl _) h x (by simp)
          rw [hx, List.length_cons] at this; omega
        | false =>
          rw [tok_word _ hd] at h
          right
          split at h
          · rename_i hk
            cases hr : tokS (r.dropWhile notD) (i + 1 + ((r.takeWhile notD).length : Int)) with
            | bad a e => rw [hr] at h; cases h
            | ok us =>
              rw [hr] at h
              cases h
              have htw : r.takeWhile notD = r := by simpa using hx
              rw [htw] at hk ⊢
              exact ⟨by simp, by rw [List.all_cons, show notD c = true by simp [notD, hd], all_tw htw]; rfl, hk, rfl⟩
          · cases h
/-- Can a token come out of a text. -/
def madeB (t : Token) : Bool := if t.Text.length ≤ 4096 then (match tokS t.Text 0 with
  | .ok [x] => x.Kind == t.Kind && x.Text == t.Text
  | _ => false) else false
theorem f26_eq (t : Token) : f26 t = some (madeB t) := by
  unfold f26 madeB
  rw [f11_eq]
  simp only [bind_ok]
  by_cases h : t.Text.length ≤ 4096
  · rw [if_pos h, if_pos h]
    cases hr : tokS t.Text 0 with
    | bad a e =>
      have he := tok_err _ _ _ _ _ (Nat.le_refl _) hr
      simp [finT, he]
    | ok ts =>
      match ts with
      | [] => simp [finT]
      | [x] =>
        have : rd [x] (0 : Int) = some x := rfl
        simp only [finT, List.nil_append, this, bind_ok]
        by_cases hk : x.Kind = t.Kind <;> simp [hk]
      | x :: y :: l =>
        have : ¬ (((x :: y :: l).length : Int) == 1) = true := by rw [beq_iff_eq]; simp; omega
        have h2 : (((x :: y :: l).length : Int) == 1) = false := by simpa using this
        simp [finT]
        omega
  · rw [if_neg h, if_neg h]; rfl
theorem f30_eq (t : Token) : f30 t = some (madeB t) := by
  unfold f30
  have sig : ∀ (c : UInt8), isSig c = true → t.Text = [c] → madeB t = (t.Kind == sgn c) := fun c hc ht => by
    unfold madeB
    rw [ht, if_pos (show [c].length ≤ 4096 by simp), tok_one_sig hc]
    simp only [beq_self_eq_true, Bool.and_true]
    rw [Bool.eq_iff_iff, beq_iff_eq, beq_iff_eq]; exact eq_comm
  by_cases h1 : t.Text = [40]
  · rw [if_pos (by simpa using h1), sig 40 (by decide) h1]; rfl
  rw [if_neg (by simpa using h1)]
  by_cases h2 : t.Text = [41]
  · rw [if_pos (by simpa using h2), sig 41 (by decide) h2]; rfl
  rw [if_neg (by simpa using h2)]
  by_cases h3 : t.Text = [39]
  · rw [if_pos (by simpa using h3), sig 39 (by decide) h3]; rfl
  rw [if_neg (by simpa using h3)]
  by_cases hl : t.Text.length ≤ 4096
  · rw [if_neg (by rw [decide_eq_true_eq]; omega), (kind_eq t.Text hl).1]
    simp only [bind_ok]
    unfold madeB
    rw [if_pos hl]
    by_cases hk : (kindS t.Text).2.2 = 0
    · obtain ⟨n0, n1⟩ := kind_notD hl hk
      rw [tok_one_word n0 n1, if_pos hk, if_pos (by simpa using hk)]
      simp
    · rw [if_neg (by simpa using hk)]
      simp only [bind_ok]
      congr 1
      symm
      cases hr : tokS t.Text 0 with
      | bad a e => rfl
      | ok ts =>
        match ts with
        | [] => rfl
        | x :: y :: l => rfl
        | [x] =>
          simp only
          cases hx : x.Text == t.Text with
          | false => simp
          | true =>
            have hx' : x.Text = t.Text := by simpa using hx
            rcases one_cases hr hx' with ⟨c, e1, e2, e3⟩ | ⟨e1, e2, e3, e4⟩
            · exfalso
              unfold isSig at e2
              simp only [Bool.or_eq_true, beq_iff_eq] at e2
              rcases e2 with (e2 | e2) | e2 <;> subst e2
              · exact h1 e1
              · exact h2 e1
              · exact h3 e1
            · exact absurd e3 hk
  · rw [if_pos (by rw [decide_eq_true_eq]; omega)]
    unfold madeB; rw [if_neg hl]

/-! ### tokens put together -/
theorem f16_l0_eq (ts : List Token) (lt : ts.length < 9000000000000) : ∀ (k i : Nat), i + k = ts.length → f16_l0 ts i = some (if (ts.drop i).all madeB then .nxt () else .ret ([], 40))
  | 0, i, hk => by rw [f16_l0, if_neg (by simp <;> omega), List.drop_of_length_le (by omega)]; rfl
  | k + 1, i, hk => by
    have k1 : i < ts.length := by omega
    rw [f16_l0, if_pos (by simp <;> omega), rd_nat k1]
    simp only [bind_ok]
    show (f26 ts[i] >>= _) = _
    rw [f26_eq]
    simp only [bind_ok]
    rw [List.drop_eq_getElem_cons k1, List.all_cons]
    cases h : madeB ts[i] with
    | false => rfl
    | true =>
      simp only [Bool.not_true, Bool.false_eq_true, if_false, Bool.true_and]
      rw [w64 (by omega) (by omega), show ((i : Int) + 1) = ((i + 1 : Nat) : Int) by omega]
      exact f16_l0_eq ts lt k (i + 1) (by omega)
theorem f17_l0_eq (ts : List Token) (lt : ts.length < 9000000000000) : ∀ (k i : Nat), i + k = ts.length → f17_l0 ts i = some (if (ts.drop i).all madeB then .nxt () else .ret ([], 40))
  | 0, i, hk => by rw [f17_l0, if_neg (by simp <;> omega), List.drop_of_length_le (by omega)]; rfl
  | k + 1, i, hk => by
    have k1 : i < ts.length := by omega
    rw [f17_l0, if_pos (by simp <;> omega), rd_nat k1]
    simp only [bind_ok]
    show (f30 ts[i] >>= _) = _
    rw [f30_eq]
    simp only [bind_ok]
    rw [List.drop_eq_getElem_cons k1, List.all_cons]
    cases h : madeB ts[i] with
    | false => rfl
    | true =>
      simp only [Bool.not_true, Bool.false_eq_true, if_false, Bool.true_and]
      rw [w64 (by omega) (by omega), show ((i : Int) + 1) = ((i + 1 : Nat) : Int) by omega]
      exact f17_l0_eq ts lt k (i + 1) (by omega)
/-- Behind a text, the others, a blank ahead of each but the first of all; none: too long. -/
def joinS : Str → Nat → List Token → Option Str
  | s, _, [] => some s
  | s, i, t :: ts => if (if i = 0 then s ++ t.Text else s ++ [32] ++ t.Text).length ≤ 4096 then joinS (if i = 0 then s ++ t.Text else s ++ [32] ++ t.Text) (i + 1) ts else none
theorem bts_app (a b : Str) : bts a ++ bts b = bts (a ++ b) := by simp [bts]
theorem f16_l1_eq (ts : List Token) (lt : ts.length < 9000000000000) (hm : ∀ t ∈ ts, t.Text.length ≤ 4096) : ∀ (k i : Nat) (s : Str), i + k = ts.length → s.length ≤ 4096 → f16_l1 ts (s.length : Int) (bts s) i = some (match joinS s i (ts.drop i) with | some r => .nxt (bts r) | none => .ret ([], 3))
  | 0, i, s, hk, hs => by rw [f16_l1, if_neg (by simp <;> omega), List.drop_of_length_le (by omega)]; rfl
  | k + 1, i, s, hk, hs => by
    have k1 : i < ts.length := by omega
    have ht := hm _ (List.getElem_mem k1)
    rw [f16_l1, if_pos (by simp <;> omega), rd_nat k1]
    simp only [bind_ok]
    rw [List.drop_eq_getElem_cons k1, joinS]
    by_cases h0 : i = 0
    · subst h0
      rw [if_neg (by simp), if_pos rfl, w64 (by omega) (by omega)]
      by_cases hl : (s ++ ts[0].Text).length ≤ 4096
      · rw [if_pos hl]
        rw [List.length_append] at hl
        rw [if_neg (by rw [decide_eq_true_eq]; omega)]
        unfold f28
        rw [apN (by simp [bts]; omega)]
        simp only [bind_ok]
        rw [bts_app, show ((s.length : Int) + (ts[0].Text.length : Int)) = ((s ++ ts[0].Text).length : Int) by rw [List.length_append]; omega, w64 (by omega) (by omega)]
        have := f16_l1_eq ts lt hm k 1 (s ++ ts[0].Text) (by omega) (by rw [List.length_append]; omega)
        exact this
      · rw [if_neg hl]
        rw [List.length_append] at hl
        rw [if_pos (by rw [decide_eq_true_eq]; omega)]
        rfl
    · rw [if_pos (by rw [decide_eq_true_eq]; omega), if_neg h0]
      unfold f27
      have e32 : bts s ++ [32] = bts (s ++ [32]) := by simp [bts]
      rw [apN (by simp [bts]; omega)]
      simp only [bind_ok]
      rw [e32, w64 (x := (s.length : Int) + 1) (by omega) (by omega), w64 (by omega) (by omega)]
      by_cases hl : (s ++ [32] ++ ts[i].Text).length ≤ 4096
      · rw [if_pos hl]
        simp only [List.length_append, List.length_singleton] at hl
        rw [if_neg (by rw [decide_eq_true_eq]; omega)]
        unfold f28
        rw [apN (by simp [bts]; omega)]
        simp only [bind_ok]
        rw [bts_app, show ((s.length : Int) + 1 + (ts[i].Text.length : Int)) = ((s ++ [32] ++ ts[i].Text).length : Int) by simp only [List.length_append, List.length_singleton]; omega, w64 (by omega) (by omega), show ((i : Int) + 1) = ((i + 1 : Nat) : Int) by omega]
        exact f16_l1_eq ts lt hm k (i + 1) (s ++ [32] ++ ts[i].Text) (by omega) (by simp only [List.length_append, List.length_singleton]; omega)
      · rw [if_neg hl]
        simp only [List.length_append, List.length_singleton] at hl
        rw [if_pos (by rw [decide_eq_true_eq]; omega)]
        rfl
theorem f17_l1_eq (ts : List Token) (lt : ts.length < 9000000000000) (hm : ∀ t ∈ ts, t.Text.length ≤ 4096) : ∀ (k i : Nat) (s : Str), i + k = ts.length → s.length ≤ 4096 → f17_l1 ts s i = some (match joinS s i (ts.drop i) with | some r => .nxt r | none => .ret ([], 3))
  | 0, i, s, hk, hs => by rw [f17_l1, if_neg (by simp <;> omega), List.drop_of_length_le (by omega)]; rfl
  | k + 1, i, s, hk, hs => by
    have k1 : i < ts.length := by omega
    have ht := hm _ (List.getElem_mem k1)
    rw [f17_l1, if_pos (by simp <;> omega)]
    rw [List.drop_eq_getElem_cons k1, joinS]
    by_cases h0 : i = 0
    · subst h0
      rw [if_neg (by simp), if_pos rfl, rd_nat k1]
      simp only [bind_ok]
      rw [catN (by omega)]
      simp only [bind_ok]
      by_cases hl : (s ++ ts[0].Text).length ≤ 4096
      · rw [if_pos hl, if_neg (by rw [decide_eq_true_eq]; omega)]
        simp only [bind_ok]
        rw [w64 (by omega) (by omega)]
        exact f17_l1_eq ts lt hm k 1 (s ++ ts[0].Text) (by omega) hl
      · rw [if_neg hl, if_pos (by rw [decide_eq_true_eq]; omega)]
        rfl
    · rw [if_pos (by rw [decide_eq_true_eq]; omega), if_neg h0, catN (by simp; omega), rd_nat k1]
      simp only [bind_ok]
      rw [catN (by simp; omega)]
      simp only [bind_ok]
      by_cases hl : (s ++ [32] ++ ts[i].Text).length ≤ 4096
      · rw [if_pos hl, if_neg (by rw [decide_eq_true_eq]; omega)]
        simp only [bind_ok]
        rw [w64 (by omega) (by omega), show ((i : Int) + 1) = ((i + 1 : Nat) : Int) by omega]
        exact f17_l1_eq ts lt hm k (i + 1) (s ++ [32] ++ ts[i].Text) (by omega) hl
      · rw [if_neg hl, if_pos (by rw [decide_eq_true_eq]; omega)]
        rfl
theorem made_len {t : Token} (h : madeB t = true) : t.Text.length ≤ 4096 := by
  unfold madeB at h
  split at h
  · assumption
  · cases h
/-- What Join answers. -/
def joinA (ts : List Token) : Str × Int := if ts.all madeB then (match joinS [] 0 ts with | some r => (r, 0) | none => ([], 3)) else ([], 40)
theorem joinS_len : ∀ (ts : List Token) (s : Str) (i : Nat) (r : Str), s.length ≤ 4096 → joinS s i ts = some r → r.length ≤ 4096
  | [], s, i, r, hs, h => by rw [joinS] at h; cases h; exact hs
  | t :: ts, s, i, r, hs, h => by
    rw [joinS] at h
    generalize (if i = 0 then s ++ t.Text else s ++ [32] ++ t.Text) = q at h
    by_cases hl : q.length ≤ 4096
    · rw [if_pos hl] at h; exact joinS_len ts _ _ r hl h
    · rw [if_neg hl] at h; cases h
theorem f16_eq (ts : List Token) (lt : ts.length < 9000000000000) : f16 ts = some (joinA ts) := by
  unfold f16 joinA
  have h0 := f16_l0_eq ts lt ts.length 0 (by omega)
  rw [show ((0 : Nat) : Int) = 0 from rfl, List.drop_zero] at h0
  rw [h0]
  simp only [bind_ok]
  cases hm : ts.all madeB with
  | false => rfl
  | true =>
    simp only [if_true]
    have h1 := f16_l1_eq ts lt (fun t ht => made_len (List.all_eq_true.1 hm t ht)) ts.length 0 [] (by omega) (by simp)
    rw [show ((0 : Nat) : Int) = 0 from rfl, List.drop_zero] at h1
    have h1' : f16_l1 ts 0 [] 0 = _ := h1
    rw [h1']
    simp only [bind_ok]
    cases hj : joinS [] 0 ts with
    | none => rfl
    | some r =>
      have hrl := joinS_len ts [] 0 r (by simp) hj
      simp only
      unfold f29
      rw [stb_bts, if_pos ⟨rfl, by simp [bts]; omega⟩]
      rfl
theorem f17_eq (ts : List Token) (lt : ts.length < 9000000000000) : f17 ts = some (joinA ts) := by
  unfold f17 joinA
  have h0 := f17_l0_eq ts lt ts.length 0 (by omega)
  rw [show ((0 : Nat) : Int) = 0 from rfl, List.drop_zero] at h0
  rw [h0]
  simp only [bind_ok]
  cases hm : ts.all madeB with
  | false => rfl
  | true =>
    simp only [if_true]
    have h1 := f17_l1_eq ts lt (fun t ht => made_len (List.all_eq_true.1 hm t ht)) ts.length 0 [] (by omega) (by simp)
    rw [show ((0 : Nat) : Int) = 0 from rfl, List.drop_zero] at h1
    rw [h1]
    simp only [bind_ok]
    cases hj : joinS [] 0 ts <;> rfl
theorem f5_eq (ts : List Token) (lt : ts.length * 88 ≤ 140737488355328) : f5 ts = some true := by
  unfold f5
  rw [f10_eq]
  simp only [bind_ok, Bool.not_true, Bool.false_eq_true, if_false]
  rw [apN (by simp; omega)]
  simp only [bind_ok, List.nil_append]
  rw [f16_eq ts (by omega), f17_eq ts (by omega)]
  simp
end Go.Bx.Scan

/- ScanJoins: for every input that the statement speaks of the law returns true and leaves what it was handed. (Own text.) -/
namespace Go.Proofs.Ytgnhnfaojpjieaa
set_option linter.unusedVariables false
set_option linter.unusedSimpArgs false
set_option linter.unusedSectionVars false
open Go.Bx Go.Bx.Scan
open Go.Proofs Go.ChangeShapes Go.WideShapes Go.ChangeAt Go.RowKit
set_option linter.unusedVariables false

set_option maxRecDepth 100000 in
theorem lifted5 (os : Os) (started : os.Started) (H : Type) (enc : TypeId × Value → H) :
    ReturnsInHanded {} Try.checked os 5 .any (Rows.scanJoinsSpec.pre6 enc Try.prog Try.f5 Rows.scanJoinsRow.domain false) (Rows.scanJoinsSpec.post enc Try.prog Try.f5 false true false false) := by
  refine returnsInHanded_of_change_sized (C := Try.checked) own_ started (by kernel_rfl) Try.func5
    (ChangeSpec.witness6 (enc := enc) (C := Try.checked) false ⟨#[], #[.slice none 0 0], []⟩ 8 (by kernel_rfl) (by kernel_rfl) (by kernel_rfl) (by kernel_rfl)) ?_
  intro W base args ds gs before hval0 hW hcnd hsz0 _
  have hsz : (DataW.weightsEach Try.prog (Try.f5.params.toList ++ Rows.scanJoinsSpec.plain.varTypes Try.prog) (ds ++ gs)).all (· ≤ reachBytes) = true := hsz0
  have hval : ∀ (j : Nat) t v, Try.f5.params[j]? = some t → args[j]? = some v → Value.okWide Try.prog W .any base t v := hval0
  have hW' := hW
  obtain ⟨p, q, hA0, hV, rfl, hfz, hnd⟩ := hW
  have hA : DataW.TrodAll enc Try.prog W 0 (fun _ => true) true Try.f5.params.toList args.toList ds p := hA0
  rw [Try.params5] at hA hval hsz
  obtain ⟨v0, vs0, d0, ds0, p0, q0, hargs, rfl, rfl, h0, r0⟩ := trodAll_cons hA
  obtain ⟨rfl, rfl, rfl⟩ := trodAll_nil r0
  obtain rfl : args = #[v0] := by cases args; simp_all
  obtain ⟨rfl, rfl⟩ := trodVars_none hV
  have lt0 : ∀ x ∈ p0, x.block < W.heap.size := by obtain ⟨m, hm⟩ := h0; exact DataW.trod_lt m _ _ _ hm
  have k0 := h0
  have wt : ∀ (j : Nat) t (d : DataW H), ([23] : List Nat)[j]? = some t → [d0][j]? = some d → ∀ z ∈ d.weights Try.prog t, z ≤ reachBytes := by
    intro j t d ht hd z hz
    have := List.all_eq_true.1 hsz z (DataW.weights_mem_each (j := j) (t := t) (d := d) (by rw [List.getElem?_append_left]; exact ht; exact (List.getElem?_eq_some_iff.1 ht).1) (by rw [List.getElem?_append_left]; exact hd; exact (List.getElem?_eq_some_iff.1 hd).1) z hz)
    simpa using this
  obtain ⟨a0, l0, c0, rfl⟩ := okWide_slice Try.underlying23 (hval 0 23 v0 rfl rfl)
  obtain ⟨m0, hm0⟩ := h0
  obtain ⟨xs0, e0, _, s0⟩ := read_rep tabOK 8 23 (by decide) m0 _ _ hm0 (wt 0 23 d0 rfl rfl)
  obtain ⟨x0, rfl, b0⟩ := shape_tokens s0
  have hcall := f5_ok x0 true (f5_eq x0 (Nat.le_trans b0.1 (by decide)))
  refine (law_pure (E := E) (W := W) (fun _ => .junk) hcall (e0)).mono fun e W' ⟨he, bel⟩ => ?_
  subst he
  exact ⟨_, rfl, _, _, _, [], _, [], hW', trodAll_mk1 (shut_bool Try.underlying4 _), (trodAll_cons_mk (Below.trod laidOut (by kernel_rfl) (of_decide_eq_true (by kernel_rfl)) k0 bel lt0) trodAll_mk0), rfl, bel.frame _, fun h => by cases h⟩

theorem over5 : Rows.scanJoinsRow.holds Try.pinned (OpenSpec.ofChange Rows.scanJoinsSpec) :=
  OpenClaim.holds_of_wide 5 Try.f5 rfl rfl rfl rfl rfl rfl rfl ⟨rfl, rfl, rfl, rfl, rfl⟩ rfl rfl rfl rfl rfl (by kernel_rfl) Try.func5 (by kernel_rfl)
    (of_decide_eq_true (by kernel_rfl)) (by unfold Func.isWrapper; first | (rw [if_pos (by decide +kernel)]; kernel_rfl) | (rw [if_neg (by decide +kernel)]; exact ⟨rfl, rfl⟩))
    (fun os started H enc _ => lifted5 os started H enc)
/-- ScanJoins, as the statement says. -/
theorem scanJoins_holds : Rows.ScanJoinsSaid := over5
#print axioms scanJoins_holds
end Go.Proofs.Ytgnhnfaojpjieaa
