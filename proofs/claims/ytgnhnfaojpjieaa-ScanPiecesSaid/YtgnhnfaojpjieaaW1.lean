/- What the program's functions compute, shown of their code (W1). Own text; parts are printed by a program of this claim's author. -/
import Derived.Test.YtgnhnfaojpjieaaW0
import Derived.WalkKit
import Derived.Lib.Builder
import Derived.Laws.Externs
import Derived.Lib.UnsafeStr
import Derived.Shelf.Strings.Builder1
namespace Go.Bx.Scan
set_option linter.unusedVariables false
set_option linter.unusedSimpArgs false
set_option linter.unusedSectionVars false
open Go.Proofs
set_option linter.unusedSimpArgs false
set_option linter.unusedVariables false
set_option maxRecDepth 10000
set_option maxHeartbeats 4000000
def f65_l0 (r12 : List Int) (u : List Int) (q : List Int) (j : Int) : Option ((List Int) × (List Int)) :=
 if (decide (j ≥ 0)) = true then
  (cutL u j (IntKind.i64.wrap ((IntKind.i64.wrap (j + (r12.length : Int))) + 1)) >>= fun p20 =>
  f77 u ((j).toNat) ((IntKind.i64.wrap ((IntKind.i64.wrap (j + (r12.length : Int))) + 1)).toNat - (j).toNat) r12 >>= fun r21 =>
  rd q j >>= fun e22 =>
  f65_l0 r12 r21.2 (setL q j r21.1) (IntKind.i64.wrap (j - 1)))
 else
  some (u, q)
 partial_fixpoint
/-- sibyl/nats.QuoRem -/
def f65 (a : List Int) (b : List Int) : Option ((List Int) × (List Int)) :=
 f72 a >>= fun r1 =>
 f72 b >>= fun r2 =>
 f73 r1 r2 >>= fun r3 =>
 if (decide (r3 < 0)) = true then
  (f62 r1 >>= fun r5 =>
  some ([], r5))
 else
  if ((r2.length : Int) == 1) = true then
   (rd r2 0 >>= fun e7 =>
   f74 r1 e7 >>= fun r8 =>
   f72 [r8.2] >>= fun r9 =>
   some (r8.1, r9))
  else
   rd r2 (IntKind.i64.wrap ((r2.length : Int) - 1)) >>= fun e10 =>
   f75 e10 >>= fun r11 =>
   f76 r2 r11 >>= fun r12 =>
   mk 4 (IntKind.i64.wrap ((r1.length : Int) + 1)) 0 >>= fun m13 =>
   f76 r1 r11 >>= fun r14 =>
   cpy m13 r14 >>= fun k15 =>
   mk 4 (IntKind.i64.wrap ((IntKind.i64.wrap ((r1.length : Int) - (r2.length : Int))) + 1)) 0 >>= fun m16 =>
   some (IntKind.i64.wrap ((m16.length : Int) - 1)) >>= fun x17 =>
   f65_l0 r12 k15 m16 x17 >>= fun o18 =>
   f72 o18.2 >>= fun r23 =>
   f78 o18.1 r11 >>= fun r24 =>
   some (r23, r24)
noncomputable def f65_ci : CI := (CI.or 72 f72_tbl (CI.or 73 f73_tbl (CI.or 62 f62_tbl (CI.or 74 f74_tbl (CI.or 75 f75_tbl (CI.or 76 f76_tbl (CI.or 78 f78_tbl (fun _ _ _ => none))))))))
theorem f65_ci_ok (base : Nat) : CIOK E base f65_ci := (or_ok f72_tbl_ok (or_ok f73_tbl_ok (or_ok f62_tbl_ok (or_ok f74_tbl_ok (or_ok f75_tbl_ok (or_ok f76_tbl_ok (or_ok f78_tbl_ok no_ok)))))))
theorem f65_res : Try.f65.results = #[.tmp 4, .tmp 5] := rfl
theorem f65_rt : Try.f65.resultTypes = #[36, 36] := rfl
theorem f65_l0_ok {base : Nat} {c00 : Ctx} (r12 : List Int) (r11 : Int) (hU : Under E base c00 nilStore) : ∀ (u : List Int) (q : List Int) (j : Int) (o18 : (List Int) × (List Int)), f65_l0 r12 u q j = some o18 →
  WpL E base c00 nilStore (lb Try.f65 0) ⟨jj 8 (.v (.int .i64 r11) :: .sl (List.map (cInt .u32) r12) :: .row 0 1 0 ((u).length) :: .row 1 1 0 ((q).length) :: .v (.int .i64 j) :: jj 76 []), St [some ⟨1, false, true, List.map (cInt .u32) u⟩, some ⟨1, false, true, List.map (cInt .u32) q⟩], none, 0⟩ (fun ex s1 => ex = .exit 0 ∧ Wk base c00 nilStore s1 ⟨jj 8 (.v (.int .i64 r11) :: jj 1 (.row 0 1 0 ((o18.1).length) :: .row 1 1 0 ((o18.2).length) :: jj 77 [])), St [some ⟨1, false, true, List.map (cInt .u32) o18.1⟩, some ⟨1, false, true, List.map (cInt .u32) o18.2⟩], none, 0⟩) := by
 refine f65_l0.partial_correctness r12 _ ?_
 intro lp__ ih u q j o18 h
 refine WpL.stepE (lbI Try.f65.eq_1) ?_
 refine Wp.seq <| rs hU (f65_ci_ok _) rgI <| ?_
 refine Wp.cond hU (t := decide (j ≥ 0)) rfl (fun hc19 => ?_) (fun hc19 => ?_)
 ·rw [if_t hc19] at h
  refine Wp.skip <| thenN <| Wp.seq <| Wp.block <| ?_
  obtain ⟨p20, hp20, h⟩ := bind_some h
  obtain ⟨hp20a, hp20b, hp20c, hp20d, hp20e, hp20f⟩ := cutL_some hp20
  try simp only [Int.toNat_natCast] at hp20c hp20d
  try simp only [Int.toNat_natCast, Int.toNat_zero, List.drop_zero, Nat.sub_zero] at hp20e hp20f
  obtain ⟨r21, hr21, h⟩ := bind_some h
  have hr21c : CallOK E base 77 [.row 0 1 ((j).toNat) ((IntKind.i64.wrap ((IntKind.i64.wrap (j + (r12.length : Int))) + 1)).toNat - (j).toNat), .sl (List.map (cInt .u32) r12)] (St [some ⟨1, false, true, List.map (cInt .u32) u⟩, some ⟨1, false, true, List.map (cInt .u32) q⟩]) (.v (.int .u32 r21.1)) (St [some ⟨1, false, true, List.map (cInt .u32) r21.2⟩, some ⟨1, false, true, List.map (cInt .u32) q⟩]) (some 0) := (f77_ok u ((j).toNat) ((IntKind.i64.wrap ((IntKind.i64.wrap (j + (r12.length : Int))) + 1)).toNat - (j).toNat) r12 r21 hr21).at [0] 0 rfl ⟨rfl, trivial⟩ rfl rfl rfl
  have hr21l := f77_len u ((j).toNat) ((IntKind.i64.wrap ((IntKind.i64.wrap (j + (r12.length : Int))) + 1)).toNat - (j).toNat) r12 r21 hr21
  obtain ⟨e22, he22, h⟩ := bind_some h
  obtain ⟨he22a, he22b, he22c⟩ := rd_some he22
  have fx := i9 hp20a hp20b hp20c hp20d hp20e.symm he22a he22b he22c hc19
  refine rq hU (rone_ok hr21c (f65_ci_ok _)) rgIS <| blkN <| thenN <| ?_
  refine Wk.wp (s2 := ⟨jj 8 (.v (.int .i64 r11) :: .sl (List.map (cInt .u32) r12) :: .row 0 1 0 ((r21.2).length) :: .row 1 1 0 ((setL q j r21.1).length) :: .v (.int .i64 j) :: jj 76 []), St [some ⟨1, false, true, List.map (cInt .u32) r21.2⟩, some ⟨1, false, true, List.map (cInt .u32) (setL q j r21.1)⟩], none, 0⟩) ?_ ?_
  ·have fe := i2 hp20e hr21l
   have fl := i2 hr21l hp20f
   have fv := i3 hp20e hp20c hp20d
   exact Wk.weak hU [some 0, some 1] _ (by decide) wsIF wvIF
  have fx := i5 hp20a hp20b hp20c hp20d hc19
  refine rq hU (f65_ci_ok _) rgIS <| againN <| ?_
  refine Wk.wpL ?_ (ih r21.2 (setL q j r21.1) (IntKind.i64.wrap (j - 1)) _ h)
  have fe := i2 hp20e hr21l
  have fl := i2 hr21l hp20f
  have fv := i3 hp20e hp20c hp20d
  exact Wk.weak hU [some 0, some 1] _ (by decide) wsIF wvIF
 ·rw [if_f hc19] at h
  refine Wp.exit <| thenE <| againE <| ?_
  obtain rfl := sj h
  refine ⟨rfl, ?_⟩
  exact Wk.weak hU [some 0, some 1] _ (by decide) wsI wvI
theorem f65_ok (a : List Int) (b : List Int) (r : (List Int) × (List Int)) (h : f65 a b = some r) : PureOK E 65 [.sl (List.map (cInt .u32) a), .sl (List.map (cInt .u32) b)] (.tup [.sl (List.map (cInt .u32) r.1), .sl (List.map (cInt .u32) r.2)]) := by
 unfold f65 at h
 refine pof (fn := Try.f65) (nt := 89) Try.func65 rfl rfl rfl rfl (fun _ => rfl) (fun base c00 hU => ?_)
 refine Wk.wp (s2 := ⟨.sl (List.map (cInt .u32) a) :: .sl (List.map (cInt .u32) b) :: jj 87 [], St [], none, 0⟩) ?_ ?_
 ·exact Wk.weak hU [] _ (by decide) .nil wvS
 refine rs hU (f65_ci_ok _) rgI <| Wp.seq <| ?_
 obtain ⟨r1, hr1, h⟩ := bind_some h
 have hr1c := fun σ => show f65_ci 72 _ σ = _ from f72_call hr1 σ
 obtain ⟨r2, hr2, h⟩ := bind_some h
 have hr2c := fun σ => show f65_ci 72 _ σ = _ from f72_call hr2 σ
 have fx := i2 hr1c hr2c
 refine rq hU (f65_ci_ok _) rgIF <| thenN <| Wp.seq <| Wp.seq <| ?_
 obtain ⟨r3, hr3, h⟩ := bind_some h
 have hr3c := fun σ => show f65_ci 73 _ σ = _ from f73_call hr3 σ
 have fx := hr3c
 refine rq hU (f65_ci_ok _) rgIF <| thenN <| ?_
 refine Wp.cond hU (t := decide (r3 < 0)) rfl (fun hc4 => ?_) (fun hc4 => ?_)
 ·rw [if_t hc4] at h
  refine Wp.seq <| ?_
  obtain ⟨r5, hr5, h⟩ := bind_some h
  have hr5c := fun σ => show f65_ci 62 _ σ = _ from f62_call hr5 σ
  have fx := i2 hr5c hc4
  refine rq hU (f65_ci_ok _) rgIF <| thenN <| Wp.ret <| thenR <| ?_
  obtain rfl := sj h
  refine ⟨.inl rfl, ?_⟩
  refine Rt.wk (s2 := ⟨jj 4 (.sl (List.map (cInt .u32) []) :: .sl (List.map (cInt .u32) r5) :: jj 83 []), St [], none, 0⟩) ?_ (Rt.of ?_)
  ·refine Wk.share hU [0] ?_
   simp (decide := true) only [share, fresh1, reduceIte, reduceCtorEq, Nat.reduceAdd, bxm]
   exact Wk.weak hU [] _ (by decide) .nil wvI
  have fx := i2 f65_res f65_rt
  exact rtI
 ·rw [if_f hc4] at h
  refine Wp.skip <| thenN <| Wp.seq <| Wp.seq <| ?_
  have fx := hc4
  refine rq hU (f65_ci_ok _) rgIF <| thenN <| ?_
  refine Wp.cond hU (t := (r2.length : Int) == 1) rfl (fun hc6 => ?_) (fun hc6 => ?_)
  ·rw [if_t hc6] at h
   refine Wp.seq <| ?_
   obtain ⟨e7, he7, h⟩ := bind_some h
   obtain ⟨he7a, he7b, he7c⟩ := rd_some he7
   obtain ⟨r8, hr8, h⟩ := bind_some h
   have hr8c := fun σ => show f65_ci 74 _ σ = _ from f74_call hr8 σ
   have fx := i6 he7a he7b he7c hr8c hc4 hc6
   refine rq hU (f65_ci_ok _) rgIF <| thenN <| Wp.seq <| ?_
   obtain ⟨r9, hr9, h⟩ := bind_some h
   have hr9c := fun σ => show f65_ci 72 _ σ = _ from f72_call hr9 σ
   try simp only [List.map_cons, List.map_nil, cInt_eq, cBool_eq, cStr_eq, cSl_eq, tys] at hr9c
   have fx := i3 hr9c hc4 hc6
   refine rq hU (f65_ci_ok _) rgIF <| thenN <| Wp.ret <| thenR <| ?_
   obtain rfl := sj h
   refine ⟨.inl rfl, ?_⟩
   refine Rt.of <| ?_
   have fx := i2 f65_res f65_rt
   exact rtI
  ·rw [if_f hc6] at h
   refine Wp.skip <| thenN <| Wp.seq <| ?_
   obtain ⟨e10, he10, h⟩ := bind_some h
   obtain ⟨he10a, he10b, he10c⟩ := rd_some he10
   obtain ⟨r11, hr11, h⟩ := bind_some h
   have hr11c := fun σ => show f65_ci 75 _ σ = _ from f75_call hr11 σ
   have fx := i6 he10a he10b he10c hr11c hc4 hc6
   refine rq hU (f65_ci_ok _) rgIF <| thenN <| Wp.seq <| ?_
   obtain ⟨r12, hr12, h⟩ := bind_some h
   have hr12c := fun σ => show f65_ci 76 _ σ = _ from f76_call hr12 σ
   have fx := i3 hr12c hc4 hc6
   refine rq hU (f65_ci_ok _) rgIF <| thenN <| Wp.seq <| ?_
   obtain ⟨m13, hm13, h⟩ := bind_some h
   obtain ⟨hm13a, hm13b, hm13c, hm13d⟩ := mk_some hm13
   have fx := i5 hm13a hm13b hm13c hc4 hc6
   refine rq hU (f65_ci_ok _) rgIF <| thenN <| ?_
   refine Wk.wp (s2 := ⟨.sl (List.map (cInt .u32) r1) :: .sl (List.map (cInt .u32) r2) :: jj 6 (.v (.int .i64 r11) :: .sl (List.map (cInt .u32) r12) :: .row 0 1 0 ((m13).length) :: jj 78 []), St [some ⟨1, false, true, List.map (cInt .u32) m13⟩], none, 0⟩) ?_ ?_
   ·have fe := hm13d
    have fl := hm13d
    have fv := nofx
    exact Wk.weak hU [some 0] _ (by decide) wsIF wvIF
   refine Wp.seq <| ?_
   obtain ⟨r14, hr14, h⟩ := bind_some h
   have hr14c := fun σ => show f65_ci 76 _ σ = _ from f76_call hr14 σ
   obtain ⟨k15, hk15, h⟩ := bind_some h
   obtain ⟨hk15a, hk15b⟩ := cpy_some hk15
   have hk15c := congrArg List.length hk15b
   rw [List.length_append, List.length_drop, Nat.add_sub_of_le hk15a] at hk15c
   refine Wp.regionCopy hU (f65_ci_ok _) rfl rfl (by simp (decide := true) (disch := (first | omega | (simp only [List.length_append, List.length_map, List.length_cons, List.length_nil]; omega))) only [evOp, putTm, jjs, E_T, E_gl, brs, tdesc, reduceIte, reduceCtorEq, Nat.reduceAdd, Nat.reduceSub, Nat.reduceLT, Nat.reduceLeDiff, Nat.reduceEqDiff, bxm, bxk, tabs, evCall, lendL, lendIds, mapO, importL, import2L, import1, import2, share, fresh1, freshL, hr14c, hc4, hc6, tys, List.dropLast]; rfl) rfl rfl rfl rfl rfl rfl rfl (by simp only [List.length_map]) rfl (len_cInt _ _) (all_pl' (fun _ => rfl) _) (by simp only [List.length_map]; omega) <| thenN <| ?_
   try simp only [bxm]
   refine Wk.wp (s2 := ⟨.sl (List.map (cInt .u32) r1) :: .sl (List.map (cInt .u32) r2) :: jj 6 (.v (.int .i64 r11) :: .sl (List.map (cInt .u32) r12) :: .row 0 1 0 ((k15).length) :: jj 78 []), St [some ⟨1, false, true, List.map (cInt .u32) k15⟩], none, 0⟩) ?_ ?_
   ·have fe := i2 hm13d hk15b
    have fl := i2 hm13d hk15c
    have fv := nofx
    exact Wk.weak hU [some 0] _ (by decide) wsIF wvIF
   refine Wp.seq <| ?_
   obtain ⟨m16, hm16, h⟩ := bind_some h
   obtain ⟨hm16a, hm16b, hm16c, hm16d⟩ := mk_some hm16
   have fx := i5 hm16a hm16b hm16c hc4 hc6
   refine rq hU (f65_ci_ok _) rgIF <| thenN <| ?_
   refine Wk.wp (s2 := ⟨jj 8 (.v (.int .i64 r11) :: .sl (List.map (cInt .u32) r12) :: .row 0 1 0 ((k15).length) :: .row 1 1 0 ((m16).length) :: jj 77 []), St [some ⟨1, false, true, List.map (cInt .u32) k15⟩, some ⟨1, false, true, List.map (cInt .u32) m16⟩], none, 0⟩) ?_ ?_
   ·have fe := i3 hm13d hk15b hm16d
    have fl := i3 hm13d hk15c hm16d
    have fv := nofx
    exact Wk.weak hU [some 0, some 1] _ (by decide) wsIF wvIF
   refine Wp.seq <| Wp.seq <| ?_
   obtain ⟨x17, hx17, h⟩ := bind_some h
   replace hx17 := sj hx17
   have fx := i3 hx17 hc4 hc6
   refine rq hU (f65_ci_ok _) rgIF <| thenN <| Wp.block <| ?_
   obtain ⟨o18, ho18, h⟩ := bind_some h
   refine Wp.loop <| ?_
   refine Tw.mono (Wk.wpL (s2 := ⟨jj 8 (.v (.int .i64 r11) :: .sl (List.map (cInt .u32) r12) :: .row 0 1 0 ((k15).length) :: .row 1 1 0 ((m16).length) :: .v (.int .i64 x17) :: jj 76 []), St [some ⟨1, false, true, List.map (cInt .u32) k15⟩, some ⟨1, false, true, List.map (cInt .u32) m16⟩], none, 0⟩) ?_ (f65_l0_ok r12 r11 hU k15 m16 x17 o18 ho18)) (fun ex s1 hp => ?_)
   ·have fe := i3 hm13d hk15b hm16d
    have fl := i3 hm13d hk15c hm16d
    have fv := nofx
    exact Wk.weak hU [some 0, some 1] _ (by decide) wsIF wvIF
   ·obtain ⟨rfl, hp⟩ := hp
    refine blkE <| thenN <| hp.wp <| Wp.seq <| ?_
    obtain ⟨r23, hr23, h⟩ := bind_some h
    have hr23c := fun σ => show f65_ci 72 _ σ = _ from f72_call hr23 σ
    obtain ⟨r24, hr24, h⟩ := bind_some h
    have hr24c := fun σ => show f65_ci 78 _ σ = _ from f78_call hr24 σ
    have fx := i4 hr23c hr24c hc4 hc6
    refine rq hU (f65_ci_ok _) rgIF <| thenN <| Wp.ret <| ?_
    obtain rfl := sj h
    refine ⟨.inl rfl, ?_⟩
    refine Rt.of <| ?_
    have fx := i5 f65_res f65_rt hm13d hk15b hm16d
    exact rtI
noncomputable def f65_tbl : CI := tbl 65 (fun p : (List Int) × (List Int) => [.sl (List.map (cInt .u32) p.1), .sl (List.map (cInt .u32) p.2)]) (fun p => (f65 p.1 p.2).map fun r => .tup [.sl (List.map (cInt .u32) r.1), .sl (List.map (cInt .u32) r.2)])
theorem f65_tbl_ok {base : Nat} : CIOK E base f65_tbl := tbl_okM fun p q h => f65_ok p.1 p.2 q h
theorem f65_call {a : List Int} {b : List Int} {r : (List Int) × (List Int)} (h : f65 a b = some r) (σ : Store) : f65_tbl 65 [.sl (List.map (cInt .u32) a), .sl (List.map (cInt .u32) b)] σ = some (.tup [.sl (List.map (cInt .u32) r.1), .sl (List.map (cInt .u32) r.2)], σ, none) :=
 tbl_eq (x := (a, b)) (fun x y e => by
  obtain ⟨x0, x1⟩ := x; obtain ⟨y0, y1⟩ := y
  have e0 := av_sl inj_int (List.cons.inj e).1
  have e1 := av_sl inj_int (List.cons.inj (List.cons.inj e).2).1
  subst e0 e1; rfl) (by simp [h]) σ
def f63_l0 (a_1 : List Int) (b_1 : List Int) : Option ((List Int)) :=
 if (decide ((b_1.length : Int) > 0)) = true then
  (f65 a_1 b_1 >>= fun r5 =>
  f63_l0  b_1 r5.2)
 else
  some a_1
 partial_fixpoint
/-- sibyl/nats.Gcd -/
def f63 (a : List Int) (b : List Int) : Option (List Int) :=
 f62 a >>= fun r1 =>
 f62 b >>= fun r2 =>
 f63_l0 r1 r2 >>= fun o3 =>
 f62 o3 >>= fun r6 =>
 some r6
noncomputable def f63_ci : CI := (CI.or 62 f62_tbl (CI.or 65 f65_tbl (fun _ _ _ => none)))
theorem f63_ci_ok (base : Nat) : CIOK E base f63_ci := (or_ok f62_tbl_ok (or_ok f65_tbl_ok no_ok))
theorem f63_res : Try.f63.results = #[.tmp 4] := rfl
theorem f63_rt : Try.f63.resultTypes = #[36] := rfl
theorem f63_l0_ok {base : Nat} {c00 : Ctx}  (hU : Under E base c00 nilStore) : ∀ (a_1 : List Int) (b_1 : List Int) (o3 : (List Int)), f63_l0  a_1 b_1 = some o3 →
  WpL E base c00 nilStore (lb Try.f63 0) ⟨.sl (List.map (cInt .u32) a_1) :: .sl (List.map (cInt .u32) b_1) :: jj 22 [], St [], none, 0⟩ (fun ex s1 => ex = .exit 0 ∧ Wk base c00 nilStore s1 ⟨.sl (List.map (cInt .u32) o3) :: jj 23 [], St [], none, 0⟩) := by
 refine f63_l0.partial_correctness  (fun a_1 b_1 o3 => WpL E base c00 nilStore (lb Try.f63 0) ⟨.sl (List.map (cInt .u32) a_1) :: .sl (List.map (cInt .u32) b_1) :: jj 22 [], St [], none, 0⟩ (fun ex s1 => ex = .exit 0 ∧ Wk base c00 nilStore s1 ⟨.sl (List.map (cInt .u32) o3) :: jj 23 [], St [], none, 0⟩)) ?_
 intro lp__ ih a_1 b_1 o3 h
 refine WpL.stepE (lbI Try.f63.eq_1) ?_
 refine Wp.seq <| rs hU (f63_ci_ok _) rgI <| ?_
 refine Wp.cond hU (t := decide ((b_1.length : Int) > 0)) rfl (fun hc4 => ?_) (fun hc4 => ?_)
 ·rw [if_t hc4] at h
  refine Wp.skip <| thenN <| Wp.block <| Wp.seq <| ?_
  obtain ⟨r5, hr5, h⟩ := bind_some h
  have hr5c := fun σ => show f63_ci 65 _ σ = _ from f65_call hr5 σ
  have fx := i2 hr5c hc4
  refine rq hU (f63_ci_ok _) rgIF <| thenN <| ?_
  have fx := hc4
  refine rq hU (f63_ci_ok _) rgIF <| blkN <| againN <| ?_
  refine Wk.wpL ?_ (ih b_1 r5.2 _ h)
  exact Wk.weak hU [] _ (by decide) .nil wvI
 ·rw [if_f hc4] at h
  refine Wp.exit <| thenE <| againE <| ?_
  obtain rfl := sj h
  refine ⟨rfl, ?_⟩
  exact Wk.weak hU [] _ (by decide) .nil wvI
theorem f63_ok (a : List Int) (b : List Int) (r : List Int) (h : f63 a b = some r) : PureOK E 63 [.sl (List.map (cInt .u32) a), .sl (List.map (cInt .u32) b)] (.own false 1 (List.map (cInt .u32) r)) := by
 unfold f63 at h
 refine pof (fn := Try.f63) (nt := 24) Try.func63 rfl rfl rfl rfl (fun _ => rfl) (fun base c00 hU => ?_)
 refine Wk.wp (s2 := ⟨.sl (List.map (cInt .u32) a) :: .sl (List.map (cInt .u32) b) :: jj 22 [], St [], none, 0⟩) ?_ ?_
 ·exact Wk.weak hU [] _ (by decide) .nil wvS
 refine rs hU (f63_ci_ok _) rgI <| Wp.seq <| ?_
 obtain ⟨r1, hr1, h⟩ := bind_some h
 have hr1c := fun σ => show f63_ci 62 _ σ = _ from f62_call hr1 σ
 obtain ⟨r2, hr2, h⟩ := bind_some h
 have hr2c := fun σ => show f63_ci 62 _ σ = _ from f62_call hr2 σ
 have fx := i2 hr1c hr2c
 refine rq hU (f63_ci_ok _) rgIF <| thenN <| Wp.seq <| Wp.block <| ?_
 obtain ⟨o3, ho3, h⟩ := bind_some h
 refine Wp.loop <| ?_
 refine Tw.mono (Wk.wpL (s2 := ⟨.sl (List.map (cInt .u32) r1) :: .sl (List.map (cInt .u32) r2) :: jj 22 [], St [], none, 0⟩) ?_ (f63_l0_ok  hU r1 r2 o3 ho3)) (fun ex s1 hp => ?_)
 ·refine Wk.share hU [0, 1] ?_
  simp (decide := true) only [share, fresh1, reduceIte, reduceCtorEq, Nat.reduceAdd, bxm]
  exact Wk.weak hU [] _ (by decide) .nil wvI
 ·obtain ⟨rfl, hp⟩ := hp
  refine blkE <| thenN <| hp.wp <| Wp.seq <| ?_
  obtain ⟨r6, hr6, h⟩ := bind_some h
  have hr6c := fun σ => show f63_ci 62 _ σ = _ from f62_call hr6 σ
  have fx := hr6c
  refine rq hU (f63_ci_ok _) rgIF <| thenN <| Wp.ret <| ?_
  obtain rfl := sj h
  refine ⟨.inl rfl, ?_⟩
  refine Rt.of <| ?_
  have fx := i2 f63_res f63_rt
  exact rtI
noncomputable def f63_tbl : CI := tbl 63 (fun p : (List Int) × (List Int) => [.sl (List.map (cInt .u32) p.1), .sl (List.map (cInt .u32) p.2)]) (fun p => (f63 p.1 p.2).map fun r => .own false 1 (List.map (cInt .u32) r))
theorem f63_tbl_ok {base : Nat} : CIOK E base f63_tbl := tbl_okM fun p q h => f63_ok p.1 p.2 q h
theorem f63_call {a : List Int} {b : List Int} {r : List Int} (h : f63 a b = some r) (σ : Store) : f63_tbl 63 [.sl (List.map (cInt .u32) a), .sl (List.map (cInt .u32) b)] σ = some (.own false 1 (List.map (cInt .u32) r), σ, none) :=
 tbl_eq (x := (a, b)) (fun x y e => by
  obtain ⟨x0, x1⟩ := x; obtain ⟨y0, y1⟩ := y
  have e0 := av_sl inj_int (List.cons.inj e).1
  have e1 := av_sl inj_int (List.cons.inj (List.cons.inj e).2).1
  subst e0 e1; rfl) (by simp [h]) σ
/-- sibyl/ratio.one -/
def f64 (a : List Int) : Option (Bool) :=
 (if ((a.length : Int) == 1) = true then
  (rd a 0 >>= fun e2 =>
  some (e2 == 1))
 else
  some false : Option (Bool)) >>= fun o1 =>
 some o1
theorem f64_res : Try.f64.results = #[.tmp 2] := rfl
theorem f64_rt : Try.f64.resultTypes = #[4] := rfl
theorem f64_ok (a : List Int) (r : Bool) (h : f64 a = some r) : PureOK E 64 [.sl (List.map (cInt .u32) a)] (.v (.bool r)) := by
 unfold f64 at h
 refine pof (fn := Try.f64) (nt := 12) Try.func64 rfl rfl rfl rfl (fun _ => rfl) (fun base c00 hU => ?_)
 refine Wk.wp (s2 := ⟨.sl (List.map (cInt .u32) a) :: jj 11 [], St [], none, 0⟩) ?_ ?_
 ·exact Wk.weak hU [] _ (by decide) .nil wvS
 refine rs hU no_ok rgI <| ?_
 obtain ⟨o1, ho1, h⟩ := bind_some h
 refine Wp.seq1 (JP := (fun ex s1 => ex = .nrm ∧ Wk base c00 nilStore s1 ⟨jj 2 (.v (.bool o1) :: jj 9 []), St [], none, 0⟩)) ?_ (fun ex s1 hp => ?_)
 ·replace h := ho1
  rcases Bool.eq_false_or_eq_true ((a.length : Int) == 1) with hg3 | hg3
  ·rw [if_t hg3] at h
   obtain ⟨e2, he2, h⟩ := bind_some h
   obtain ⟨he2a, he2b, he2c⟩ := rd_some he2
   have fx := i4 he2a he2b he2c hg3
   refine rq hU no_ok rgIF <| ?_
   obtain rfl := sj h
   refine ⟨rfl, ?_⟩
   exact Wk.weak hU [] _ (by decide) .nil wvI
  ·rw [if_f hg3] at h
   have fx := hg3
   refine rq hU no_ok rgIF <| ?_
   obtain rfl := sj h
   refine ⟨rfl, ?_⟩
   exact Wk.weak hU [] _ (by decide) .nil wvI
 ·obtain ⟨rfl, hp⟩ := hp
  refine thenN (hp.wp ?_)
  refine Wp.ret <| ?_
  obtain rfl := sj h
  refine ⟨.inl rfl, ?_⟩
  refine Rt.of <| ?_
  have fx := i2 f64_res f64_rt
  exact rtI
noncomputable def f64_tbl : CI := tbl 64 (fun p : (List Int) => [.sl (List.map (cInt .u32) p)]) (fun p => (f64 p).map fun r => .v (.bool r))
theorem f64_tbl_ok {base : Nat} : CIOK E base f64_tbl := tbl_okM fun p q h => f64_ok p q h
theorem f64_call {a : List Int} {r : Bool} (h : f64 a = some r) (σ : Store) : f64_tbl 64 [.sl (List.map (cInt .u32) a)] σ = some (.v (.bool r), σ, none) :=
 tbl_eq (x := (a)) (fun x y e => by
  exact av_sl inj_int (List.cons.inj e).1) (by simp [h]) σ
/-- sibyl/ratio.Make -/
def f55 (neg : Bool) (num : List Int) (den : List Int) : Option (Ratio × Int) :=
 f62 num >>= fun r1 =>
 f62 den >>= fun r2 =>
 if ((r2.length : Int) == 0) = true then
  (some ((⟨false, [], []⟩ : Ratio), 10))
 else
  if ((r1.length : Int) == 0) = true then
   (some ((⟨false, [], [1]⟩ : Ratio), 0))
  else
   f63 r1 r2 >>= fun r5 =>
   f64 r5 >>= fun r6 =>
   if (!r6) = true then
    (f65 r1 r5 >>= fun r8 =>
    f65 r2 r5 >>= fun r9 =>
    if (decide ((r8.1.length : Int) > 16)) = true then
     (some ((⟨false, [], []⟩ : Ratio), 4))
    else
     if (decide ((r9.1.length : Int) > 16)) = true then
      (some ((⟨false, [], []⟩ : Ratio), 4))
     else
      some ((⟨neg, r8.1, r9.1⟩ : Ratio), 0))
   else
    if (decide ((r1.length : Int) > 16)) = true then
     (some ((⟨false, [], []⟩ : Ratio), 4))
    else
     if (decide ((r2.length : Int) > 16)) = true then
      (some ((⟨false, [], []⟩ : Ratio), 4))
     else
      some ((⟨neg, r1, r2⟩ : Ratio), 0)
noncomputable def f55_ci : CI := (CI.or 62 f62_tbl (CI.or 63 f63_tbl (CI.or 64 f64_tbl (CI.or 65 f65_tbl (fun _ _ _ => none)))))
theorem f55_ci_ok (base : Nat) : CIOK E base f55_ci := (or_ok f62_tbl_ok (or_ok f63_tbl_ok (or_ok f64_tbl_ok (or_ok f65_tbl_ok no_ok))))
theorem f55_res : Try.f55.results = #[.cell 6 38, .tmp 7] := rfl
theorem f55_rt : Try.f55.resultTypes = #[38, 24] := rfl
theorem f55_ok (neg : Bool) (num : List Int) (den : List Int) (r : Ratio × Int) (h : f55 neg num den = some r) : PureOK E 55 [.v (.bool neg), .sl (List.map (cInt .u32) num), .sl (List.map (cInt .u32) den)] (.tup [.agg [.v (.bool r.1.Neg), .sl (List.map (cInt .u32) r.1.Num), .sl (List.map (cInt .u32) r.1.Den)], .v (.int .i64 r.2)]) := by
 unfold f55 at h
 refine pof (fn := Try.f55) (nt := 55) Try.func55 rfl rfl rfl rfl (fun _ => rfl) (fun base c00 hU => ?_)
 refine Wk.wp (s2 := ⟨.v (.bool neg) :: .sl (List.map (cInt .u32) num) :: .sl (List.map (cInt .u32) den) :: jj 52 [], St [], none, 0⟩) ?_ ?_
 ·exact Wk.weak hU [] _ (by decide) .nil wvS
 refine rs hU (f55_ci_ok _) rgI <| Wp.seq <| ?_
 obtain ⟨r1, hr1, h⟩ := bind_some h
 have hr1c := fun σ => show f55_ci 62 _ σ = _ from f62_call hr1 σ
 obtain ⟨r2, hr2, h⟩ := bind_some h
 have hr2c := fun σ => show f55_ci 62 _ σ = _ from f62_call hr2 σ
 have fx := i2 hr1c hr2c
 refine rq hU (f55_ci_ok _) rgIF <| thenN <| Wp.seq <| rs hU (f55_ci_ok _) rgI <| ?_
 refine Wp.cond hU (t := (r2.length : Int) == 0) rfl (fun hc3 => ?_) (fun hc3 => ?_)
 ·rw [if_t hc3] at h
  refine Wp.seq <| ?_
  have fx := hc3
  refine rq hU (f55_ci_ok _) rgIF <| thenN <| Wp.ret <| thenR <| ?_
  obtain rfl := sj h
  refine ⟨.inl rfl, ?_⟩
  refine Rt.wk (s2 := ⟨jj 6 (.ptr 0 0 0 :: .v (.int .i64 10) :: jj 47 []), St [some ⟨3, false, false, [[.v (.bool false), .sl (List.map (cInt .u32) []), .sl (List.map (cInt .u32) [])]]⟩], none, 0⟩) ?_ (Rt.of ?_)
  ·exact Wk.weak hU [some 0] _ (by decide) wsI wvI
  have fx := i2 f55_res f55_rt
  exact rtI
 ·rw [if_f hc3] at h
  refine Wp.skip <| thenN <| Wp.seq <| Wp.seq <| ?_
  have fx := hc3
  refine rq hU (f55_ci_ok _) rgIF <| thenN <| ?_
  refine Wp.cond hU (t := (r1.length : Int) == 0) rfl (fun hc4 => ?_) (fun hc4 => ?_)
  ·rw [if_t hc4] at h
   refine Wp.seq <| ?_
   have fx := i2 hc3 hc4
   refine rq hU (f55_ci_ok _) rgIF <| thenN <| Wp.ret <| thenR <| ?_
   obtain rfl := sj h
   refine ⟨.inl rfl, ?_⟩
   refine Rt.wk (s2 := ⟨jj 6 (.ptr 0 0 0 :: .v (.int .i64 0) :: jj 47 []), St [some ⟨3, false, false, [[.v (.bool false), .sl (List.map (cInt .u32) []), .sl (List.map (cInt .u32) [1])]]⟩], none, 0⟩) ?_ (Rt.of ?_)
   ·refine Wk.share hU [3] ?_
    simp (decide := true) only [share, fresh1, reduceIte, reduceCtorEq, Nat.reduceAdd, bxm]
    exact Wk.weak hU [some 0] _ (by decide) wsI wvI
   have fx := i2 f55_res f55_rt
   exact rtI
  ·rw [if_f hc4] at h
   refine Wp.skip <| thenN <| Wp.seq <| Wp.seq <| ?_
   obtain ⟨r5, hr5, h⟩ := bind_some h
   have hr5c := fun σ => show f55_ci 63 _ σ = _ from f63_call hr5 σ
   have fx := i3 hr5c hc3 hc4
   refine rq hU (f55_ci_ok _) rgIF <| thenN <| Wp.seq <| ?_
   obtain ⟨r6, hr6, h⟩ := bind_some h
   have hr6c := fun σ => show f55_ci 64 _ σ = _ from f64_call hr6 σ
   have fx := i3 hr6c hc3 hc4
   refine rq hU (f55_ci_ok _) rgIF <| thenN <| ?_
   refine Wp.cond hU (t := !r6) rfl (fun hc7 => ?_) (fun hc7 => ?_)
   ·rw [if_t hc7] at h
    refine Wp.seq <| ?_
    obtain ⟨r8, hr8, h⟩ := bind_some h
    have hr8c := fun σ => show f55_ci 65 _ σ = _ from f65_call hr8 σ
    have fx := i4 hr8c hc3 hc4 hc7
    refine rq hU (f55_ci_ok _) rgIF <| thenN <| ?_
    obtain ⟨r9, hr9, h⟩ := bind_some h
    have hr9c := fun σ => show f55_ci 65 _ σ = _ from f65_call hr9 σ
    have fx := i4 hr9c hc3 hc4 hc7
    refine rq hU (f55_ci_ok _) rgIF <| thenN <| Wp.seq <| Wp.seq <| ?_
    rcases Bool.eq_false_or_eq_true (decide ((r8.1.length : Int) > 16)) with hg12 | hg12
    ·rw [if_t hg12] at h
     have fx := i4 hc3 hc4 hc7 hg12
     refine rq hU (f55_ci_ok _) rgIF <| thenN <| ?_
     refine Wp.cond hU (t := true) rfl (fun _ => ?_) (fun hc => by cases hc)
     refine rs hU (f55_ci_ok _) rgIF <| Wp.ret <| thenR <| ?_
     obtain rfl := sj h
     refine ⟨.inl rfl, ?_⟩
     refine Rt.wk (s2 := ⟨jj 6 (.ptr 0 0 0 :: .v (.int .i64 4) :: jj 47 []), St [some ⟨3, false, false, [[.v (.bool false), .sl (List.map (cInt .u32) []), .sl (List.map (cInt .u32) [])]]⟩], none, 0⟩) ?_ (Rt.of ?_)
     ·exact Wk.weak hU [some 0] _ (by decide) wsI wvI
     have fx := i2 f55_res f55_rt
     exact rtI
    ·rw [if_f hg12] at h
     have fx := i4 hc3 hc4 hc7 hg12
     refine rq hU (f55_ci_ok _) rgIF <| thenN <| ?_
     refine Wp.cond hU (t := decide ((r9.1.length : Int) > 16)) rfl (fun hc10 => ?_) (fun hc10 => ?_)
     ·rw [if_t hc10] at h
      refine Wp.seq <| ?_
      have fx := i5 hc3 hc4 hc7 hg12 hc10
      refine rq hU (f55_ci_ok _) rgIF <| thenN <| Wp.ret <| thenR <| ?_
      obtain rfl := sj h
      refine ⟨.inl rfl, ?_⟩
      refine Rt.wk (s2 := ⟨jj 6 (.ptr 0 0 0 :: .v (.int .i64 4) :: jj 47 []), St [some ⟨3, false, false, [[.v (.bool false), .sl (List.map (cInt .u32) []), .sl (List.map (cInt .u32) [])]]⟩], none, 0⟩) ?_ (Rt.of ?_)
      ·exact Wk.weak hU [some 0] _ (by decide) wsI wvI
      have fx := i2 f55_res f55_rt
      exact rtI
     ·rw [if_f hc10] at h
      refine Wp.skip <| thenN <| Wp.seq <| ?_
      have fx := i5 hc3 hc4 hc7 hg12 hc10
      refine rq hU (f55_ci_ok _) rgIF <| thenN <| Wp.ret <| ?_
      obtain rfl := sj h
      refine ⟨.inl rfl, ?_⟩
      refine Rt.of <| ?_
      have fx := i2 f55_res f55_rt
      exact rtI
   ·rw [if_f hc7] at h
    refine Wp.skip <| thenN <| Wp.seq <| Wp.seq <| ?_
    rcases Bool.eq_false_or_eq_true (decide ((r1.length : Int) > 16)) with hg16 | hg16
    ·rw [if_t hg16] at h
     have fx := i4 hc3 hc4 hc7 hg16
     refine rq hU (f55_ci_ok _) rgIF <| thenN <| ?_
     refine Wp.cond hU (t := true) rfl (fun _ => ?_) (fun hc => by cases hc)
     refine rs hU (f55_ci_ok _) rgIF <| Wp.ret <| thenR <| ?_
     obtain rfl := sj h
     refine ⟨.inl rfl, ?_⟩
     refine Rt.wk (s2 := ⟨jj 6 (.ptr 0 0 0 :: .v (.int .i64 4) :: jj 47 []), St [some ⟨3, false, false, [[.v (.bool false), .sl (List.map (cInt .u32) []), .sl (List.map (cInt .u32) [])]]⟩], none, 0⟩) ?_ (Rt.of ?_)
     ·exact Wk.weak hU [some 0] _ (by decide) wsI wvI
     have fx := i2 f55_res f55_rt
     exact rtI
    ·rw [if_f hg16] at h
     have fx := i4 hc3 hc4 hc7 hg16
     refine rq hU (f55_ci_ok _) rgIF <| thenN <| ?_
     refine Wp.cond hU (t := decide ((r2.length : Int) > 16)) rfl (fun hc11 => ?_) (fun hc11 => ?_)
     ·rw [if_t hc11] at h
      refine Wp.seq <| ?_
      have fx := i5 hc3 hc4 hc7 hg16 hc11
      refine rq hU (f55_ci_ok _) rgIF <| thenN <| Wp.ret <| thenR <| ?_
      obtain rfl := sj h
      refine ⟨.inl rfl, ?_⟩
      refine Rt.wk (s2 := ⟨jj 6 (.ptr 0 0 0 :: .v (.int .i64 4) :: jj 47 []), St [some ⟨3, false, false, [[.v (.bool false), .sl (List.map (cInt .u32) []), .sl (List.map (cInt .u32) [])]]⟩], none, 0⟩) ?_ (Rt.of ?_)
      ·exact Wk.weak hU [some 0] _ (by decide) wsI wvI
      have fx := i2 f55_res f55_rt
      exact rtI
     ·rw [if_f hc11] at h
      refine Wp.skip <| thenN <| Wp.seq <| ?_
      have fx := i5 hc3 hc4 hc7 hg16 hc11
      refine rq hU (f55_ci_ok _) rgIF <| thenN <| Wp.ret <| ?_
      obtain rfl := sj h
      refine ⟨.inl rfl, ?_⟩
      refine Rt.wk (s2 := ⟨jj 6 (.ptr 0 0 0 :: .v (.int .i64 0) :: jj 47 []), St [some ⟨3, false, false, [[.v (.bool neg), .sl (List.map (cInt .u32) r1), .sl (List.map (cInt .u32) r2)]]⟩], none, 0⟩) ?_ (Rt.of ?_)
      ·refine Wk.share hU [1, 2] ?_
       simp (decide := true) only [share, fresh1, reduceIte, reduceCtorEq, Nat.reduceAdd, bxm]
       exact Wk.weak hU [some 0] _ (by decide) wsI wvI
      have fx := i2 f55_res f55_rt
      exact rtI
noncomputable def f55_tbl : CI := tbl 55 (fun p : Bool × (List Int) × (List Int) => [.v (.bool p.1), .sl (List.map (cInt .u32) p.2.1), .sl (List.map (cInt .u32) p.2.2)]) (fun p => (f55 p.1 p.2.1 p.2.2).map fun r => .tup [.agg [.v (.bool r.1.Neg), .sl (List.map (cInt .u32) r.1.Num), .sl (List.map (cInt .u32) r.1.Den)], .v (.int .i64 r.2)])
theorem f55_tbl_ok {base : Nat} : CIOK E base f55_tbl := tbl_okM fun p q h => f55_ok p.1 p.2.1 p.2.2 q h
theorem f55_call {neg : Bool} {num : List Int} {den : List Int} {r : Ratio × Int} (h : f55 neg num den = some r) (σ : Store) : f55_tbl 55 [.v (.bool neg), .sl (List.map (cInt .u32) num), .sl (List.map (cInt .u32) den)] σ = some (.tup [.agg [.v (.bool r.1.Neg), .sl (List.map (cInt .u32) r.1.Num), .sl (List.map (cInt .u32) r.1.Den)], .v (.int .i64 r.2)], σ, none) :=
 tbl_eq (x := (neg, num, den)) (fun x y e => by
  obtain ⟨x0, x1, x2⟩ := x; obtain ⟨y0, y1, y2⟩ := y
  have e0 := av_bool (List.cons.inj e).1
  have e1 := av_sl inj_int (List.cons.inj (List.cons.inj e).2).1
  have e2 := av_sl inj_int (List.cons.inj (List.cons.inj (List.cons.inj e).2).2).1
  subst e0 e1 e2; rfl) (by simp [h]) σ
/-- sibyl/scan.begins -/
def f37 (c : Int) : Option (Bool) :=
 (if (decide (c ≥ 97)) = true then
  (if (decide (c ≤ 122)) = true then
   (some true)
  else
   if (decide (c ≥ 65)) = true then
    (if (decide (c ≤ 90)) = true then
     (some true)
    else
     f19 [33, 36, 37, 38, 42, 47, 58, 60, 61, 62, 63, 94, 95, 126] c >>= fun r2 =>
     some (decide (r2 ≥ 0)))
   else
    f19 [33, 36, 37, 38, 42, 47, 58, 60, 61, 62, 63, 94, 95, 126] c >>= fun r2 =>
    some (decide (r2 ≥ 0)))
 else
  if (decide (c ≥ 65)) = true then
   (if (decide (c ≤ 90)) = true then
    (some true)
   else
    f19 [33, 36, 37, 38, 42, 47, 58, 60, 61, 62, 63, 94, 95, 126] c >>= fun r2 =>
    some (decide (r2 ≥ 0)))
  else
   f19 [33, 36, 37, 38, 42, 47, 58, 60, 61, 62, 63, 94, 95, 126] c >>= fun r2 =>
   some (decide (r2 ≥ 0)) : Option (Bool)) >>= fun o1 =>
 some o1
noncomputable def f37_ci : CI := (CI.or 19 f19_tbl (fun _ _ _ => none))
theorem f37_ci_ok (base : Nat) : CIOK E base f37_ci := (or_ok f19_tbl_ok no_ok)
theorem f37_res : Try.f37.results = #[.tmp 2] := rfl
theorem f37_rt : Try.f37.resultTypes = #[4] := rfl
theorem f37_ok (c : Int) (r : Bool) (h : f37 c = some r) : PureOK E 37 [.v (.int .u8 c)] (.v (.bool r)) := by
 unfold f37 at h
 refine pof (fn := Try.f37) (nt := 22) Try.func37 rfl rfl rfl rfl (fun _ => rfl) (fun base c00 hU => ?_)
 refine Wk.wp (s2 := ⟨.v (.int .u8 c) :: jj 21 [], St [], none, 0⟩) ?_ ?_
 ·exact Wk.weak hU [] _ (by decide) .nil wvS
 refine rs hU (f37_ci_ok _) rgI <| ?_
 obtain ⟨o1, ho1, h⟩ := bind_some h
 refine Wp.seq1 (JP := (fun ex s1 => ex = .nrm ∧ Wk base c00 nilStore s1 ⟨jj 2 (.v (.bool o1) :: jj 19 []), St [], none, 0⟩)) ?_ (fun ex s1 hp => ?_)
 ·replace h := ho1
  rcases Bool.eq_false_or_eq_true (decide (c ≥ 97)) with hg13 | hg13
  ·rw [if_t hg13] at h
   rcases Bool.eq_false_or_eq_true (decide (c ≤ 122)) with hg14 | hg14
   ·rw [if_t hg14] at h
    have fx := i2 hg13 hg14
    refine rq hU (f37_ci_ok _) rgIF <| ?_
    obtain rfl := sj h
    refine ⟨rfl, ?_⟩
    exact Wk.weak hU [] _ (by decide) .nil wvI
   ·rw [if_f hg14] at h
    rcases Bool.eq_false_or_eq_true (decide (c ≥ 65)) with hg15 | hg15
    ·rw [if_t hg15] at h
     rcases Bool.eq_false_or_eq_true (decide (c ≤ 90)) with hg16 | hg16
     ·rw [if_t hg16] at h
      have fx := i4 hg13 hg14 hg15 hg16
      refine rq hU (f37_ci_ok _) rgIF <| ?_
      obtain rfl := sj h
      refine ⟨rfl, ?_⟩
      exact Wk.weak hU [] _ (by decide) .nil wvI
     ·rw [if_f hg16] at h
      obtain ⟨r2, hr2, h⟩ := bind_some h
      have hr2c := fun σ => show f37_ci 19 _ σ = _ from f19_call hr2 σ
      try simp only [List.map_cons, List.map_nil, cInt_eq, cBool_eq, cStr_eq, cSl_eq, tys] at hr2c
      have fx := i5 hr2c hg13 hg14 hg15 hg16
      refine rq hU (f37_ci_ok _) rgIF <| ?_
      obtain rfl := sj h
      refine ⟨rfl, ?_⟩
      exact Wk.weak hU [] _ (by decide) .nil wvI
    ·rw [if_f hg15] at h
     obtain ⟨r2, hr2, h⟩ := bind_some h
     have hr2c := fun σ => show f37_ci 19 _ σ = _ from f19_call hr2 σ
     try simp only [List.map_cons, List.map_nil, cInt_eq, cBool_eq, cStr_eq, cSl_eq, tys] at hr2c
     have fx := i4 hr2c hg13 hg14 hg15
     refine rq hU (f37_ci_ok _) rgIF <| ?_
     obtain rfl := sj h
     refine ⟨rfl, ?_⟩
     exact Wk.weak hU [] _ (by decide) .nil wvI
  ·rw [if_f hg13] at h
   rcases Bool.eq_false_or_eq_true (decide (c ≥ 65)) with hg17 | hg17
   ·rw [if_t hg17] at h
    rcases Bool.eq_false_or_eq_true (decide (c ≤ 90)) with hg18 | hg18
    ·rw [if_t hg18] at h
     have fx := i3 hg13 hg17 hg18
     refine rq hU (f37_ci_ok _) rgIF <| ?_
     obtain rfl := sj h
     refine ⟨rfl, ?_⟩
     exact Wk.weak hU [] _ (by decide) .nil wvI
    ·rw [if_f hg18] at h
     obtain ⟨r2, hr2, h⟩ := bind_some h
     have hr2c := fun σ => show f37_ci 19 _ σ = _ from f19_call hr2 σ
     try simp only [List.map_cons, List.map_nil, cInt_eq, cBool_eq, cStr_eq, cSl_eq, tys] at hr2c
     have fx := i4 hr2c hg13 hg17 hg18
     refine rq hU (f37_ci_ok _) rgIF <| ?_
     obtain rfl := sj h
     refine ⟨rfl, ?_⟩
     exact Wk.weak hU [] _ (by decide) .nil wvI
   ·rw [if_f hg17] at h
    obtain ⟨r2, hr2, h⟩ := bind_some h
    have hr2c := fun σ => show f37_ci 19 _ σ = _ from f19_call hr2 σ
    try simp only [List.map_cons, List.map_nil, cInt_eq, cBool_eq, cStr_eq, cSl_eq, tys] at hr2c
    have fx := i3 hr2c hg13 hg17
    refine rq hU (f37_ci_ok _) rgIF <| ?_
    obtain rfl := sj h
    refine ⟨rfl, ?_⟩
    exact Wk.weak hU [] _ (by decide) .nil wvI
 ·obtain ⟨rfl, hp⟩ := hp
  refine thenN (hp.wp ?_)
  refine Wp.ret <| ?_
  obtain rfl := sj h
  refine ⟨.inl rfl, ?_⟩
  refine Rt.of <| ?_
  have fx := i2 f37_res f37_rt
  exact rtI
noncomputable def f37_tbl : CI := tbl 37 (fun p : Int => [.v (.int .u8 p)]) (fun p => (f37 p).map fun r => .v (.bool r))
theorem f37_tbl_ok {base : Nat} : CIOK E base f37_tbl := tbl_okM fun p q h => f37_ok p q h
theorem f37_call {c : Int} {r : Bool} (h : f37 c = some r) (σ : Store) : f37_tbl 37 [.v (.int .u8 c)] σ = some (.v (.bool r), σ, none) :=
 tbl_eq (x := (c)) (fun x y e => by
  exact av_int (List.cons.inj e).1) (by simp [h]) σ
def f24_l0 (s : Str) (i : Int) : Option (Ou Bool Unit) :=
 if (decide (i < (s.length : Int))) = true then
  ((bt s i >>= fun b8 =>
  f37 b8 >>= fun r9 =>
  if (!r9) = true then
   (f19 [48, 49, 50, 51, 52, 53, 54, 55, 56, 57, 43, 45, 46, 64] b8 >>= fun r10 =>
   if (decide (r10 < 0)) = true then
    (some (.ret false))
   else
    some (.nxt ()))
  else
   some (.nxt ()) : Option (Ou Bool Unit)) >>= fun o7 => match o7 with
  | .ret r0 => some (.ret r0)
  | .nxt wo7 =>
   f24_l0 s (IntKind.i64.wrap (i + 1)))
 else
  some (.nxt ())
 partial_fixpoint
/-- sibyl/scan.shaped -/
def f24 (s : Str) : Option (Bool) :=
 if (s == [43]) = true then
  (some true)
 else
  if (s == [45]) = true then
   (some true)
  else
   if (s == []) = true then
    (some false)
   else
    bt s 0 >>= fun b2 =>
    f37 b2 >>= fun r3 =>
    if (!r3) = true then
     (some false)
    else
     f24_l0 s 1 >>= fun o5 => match o5 with
     | .ret r0 => some r0
     | .nxt wo5 =>
      some true
noncomputable def f24_ci : CI := (CI.or 37 f37_tbl (CI.or 19 f19_tbl (fun _ _ _ => none)))
theorem f24_ci_ok (base : Nat) : CIOK E base f24_ci := (or_ok f37_tbl_ok (or_ok f19_tbl_ok no_ok))
theorem f24_res : Try.f24.results = #[.tmp 2] := rfl
theorem f24_rt : Try.f24.resultTypes = #[4] := rfl
theorem f24_l0_ok {base : Nat} {c00 : Ctx} (s : Str) (hU : Under E base c00 nilStore) : ∀ (i : Int) (o5 : Ou Bool Unit), f24_l0 s i = some o5 →
  WpL E base c00 nilStore (lb Try.f24 0) ⟨.v (.string (mkS s)) :: jj 2 (.v (.int .i64 i) :: jj 32 []), St [], none, 0⟩ (fun ex s1 => match o5 with | .ret r0 => ex = .ret ∧ Rt E base c00 Try.f24 (.v (.bool r0)) s1 | .nxt wo5 => ex = .exit 0 ∧ Wk base c00 nilStore s1 ⟨jj 36 [], St [], none, 0⟩) := by
 refine f24_l0.partial_correctness s _ ?_
 intro lp__ ih i o5 h
 refine WpL.stepE (lbI Try.f24.eq_1) ?_
 refine Wp.seq <| rs hU (f24_ci_ok _) rgI <| ?_
 refine Wp.cond hU (t := decide (i < (s.length : Int))) rfl (fun hc6 => ?_) (fun hc6 => ?_)
 ·rw [if_t hc6] at h
  refine Wp.skip <| thenN <| ?_
  obtain ⟨o7, ho7, h⟩ := bind_some h
  refine Wp.seq1 (JP := (fun ex s1 => match o7 with | .ret r0 => ex = .ret ∧ Rt E base c00 Try.f24 (.v (.bool r0)) s1 | .nxt wo7 => ex = .nrm ∧ Wk base c00 nilStore s1 ⟨.v (.string (mkS s)) :: jj 2 (.v (.int .i64 i) :: jj 32 []), St [], none, 0⟩)) ?_ (fun ex s1 hp => ?_)
  ·replace h := ho7
   refine Wp.block <| Wp.seq <| ?_
   obtain ⟨b8, hb8, h⟩ := bind_some h
   obtain ⟨r9, hr9, h⟩ := bind_some h
   have hr9c := fun σ => show f24_ci 37 _ σ = _ from f37_call hr9 σ
   rcases Bool.eq_false_or_eq_true (!r9) with hg28 | hg28
   ·rw [if_t hg28] at h
    obtain ⟨r10, hr10, h⟩ := bind_some h
    have hr10c := fun σ => show f24_ci 19 _ σ = _ from f19_call hr10 σ
    try simp only [List.map_cons, List.map_nil, cInt_eq, cBool_eq, cStr_eq, cSl_eq, tys] at hr10c
    have fx := i5 hb8 hr9c hr10c hc6 hg28
    refine rq hU (f24_ci_ok _) rgIF <| thenN <| ?_
    refine Wp.cond hU (t := decide (r10 < 0)) rfl (fun hc11 => ?_) (fun hc11 => ?_)
    ·rw [if_t hc11] at h
     refine Wp.seq <| ?_
     have fx := i3 hc6 hg28 hc11
     refine rq hU (f24_ci_ok _) rgIF <| thenN <| Wp.ret <| blkR <| ?_
     obtain rfl := sj h
     refine ⟨rfl, ?_⟩
     refine Rt.of <| ?_
     have fx := i2 f24_res f24_rt
     exact rtI
    ·rw [if_f hc11] at h
     refine Wp.skip <| blkN <| ?_
     obtain rfl := sj h
     refine ⟨rfl, ?_⟩
     exact Wk.weak hU [] _ (by decide) .nil wvI
   ·rw [if_f hg28] at h
    have fx := i4 hb8 hr9c hc6 hg28
    refine rq hU (f24_ci_ok _) rgIF <| thenN <| ?_
    refine Wp.cond hU (t := false) rfl (fun hc => by cases hc) (fun _ => ?_)
    refine Wp.skip <| blkN <| ?_
    obtain rfl := sj h
    refine ⟨rfl, ?_⟩
    exact Wk.weak hU [] _ (by decide) .nil wvI
  ·cases o7 with
   | ret r0 =>
    obtain ⟨rfl, hp⟩ := hp
    obtain rfl := sj h
    refine thenR <| againR <| ?_
    exact ⟨rfl, hp⟩
   | nxt wo7 =>
    obtain ⟨rfl, hp⟩ := hp
    dsimp only at h
    refine thenN (hp.wp ?_)
    have fx := hc6
    refine rq hU (f24_ci_ok _) rgIF <| againN <| ?_
    refine Wk.wpL ?_ (ih (IntKind.i64.wrap (i + 1)) _ h)
    exact Wk.weak hU [] _ (by decide) .nil wvI
 ·rw [if_f hc6] at h
  refine Wp.exit <| thenE <| againE <| ?_
  obtain rfl := sj h
  refine ⟨rfl, ?_⟩
  exact Wk.weak hU [] _ (by decide) .nil wvI
theorem f24_ok (s : Str) (r : Bool) (h : f24 s = some r) : PureOK E 24 [.v (.string (mkS s))] (.v (.bool r)) := by
 unfold f24 at h
 refine pof (fn := Try.f24) (nt := 36) Try.func24 rfl rfl rfl rfl (fun _ => rfl) (fun base c00 hU => ?_)
 refine Wk.wp (s2 := ⟨.v (.string (mkS s)) :: jj 35 [], St [], none, 0⟩) ?_ ?_
 ·exact Wk.weak hU [] _ (by decide) .nil wvS
 refine rs hU (f24_ci_ok _) rgI <| Wp.seq <| Wp.seq <| ?_
 rcases Bool.eq_false_or_eq_true (s == [43]) with hg16 | hg16
 ·rw [if_t hg16] at h
  have fx := hg16
  refine rq hU (f24_ci_ok _) rgIF <| thenN <| ?_
  refine Wp.cond hU (t := true) rfl (fun _ => ?_) (fun hc => by cases hc)
  refine rs hU (f24_ci_ok _) rgIF <| Wp.ret <| thenR <| ?_
  obtain rfl := sj h
  refine ⟨.inl rfl, ?_⟩
  refine Rt.of <| ?_
  have fx := i2 f24_res f24_rt
  exact rtI
 ·rw [if_f hg16] at h
  have fx := hg16
  refine rq hU (f24_ci_ok _) rgIF <| thenN <| ?_
  refine Wp.cond hU (t := s == [45]) rfl (fun hc1 => ?_) (fun hc1 => ?_)
  ·rw [if_t hc1] at h
   refine Wp.seq <| ?_
   have fx := i2 hg16 hc1
   refine rq hU (f24_ci_ok _) rgIF <| thenN <| Wp.ret <| thenR <| ?_
   obtain rfl := sj h
   refine ⟨.inl rfl, ?_⟩
   refine Rt.of <| ?_
   have fx := i2 f24_res f24_rt
   exact rtI
  ·rw [if_f hc1] at h
   refine Wp.skip <| thenN <| Wp.seq <| Wp.seq <| ?_
   rcases Bool.eq_false_or_eq_true (s == []) with hg20 | hg20
   ·rw [if_t hg20] at h
    have fx := i3 hg16 hc1 hg20
    refine rq hU (f24_ci_ok _) rgIF <| thenN <| ?_
    refine Wp.cond hU (t := true) rfl (fun _ => ?_) (fun hc => by cases hc)
    refine rs hU (f24_ci_ok _) rgIF <| Wp.ret <| thenR <| ?_
    obtain rfl := sj h
    refine ⟨.inl rfl, ?_⟩
    refine Rt.of <| ?_
    have fx := i2 f24_res f24_rt
    exact rtI
   ·rw [if_f hg20] at h
    obtain ⟨b2, hb2, h⟩ := bind_some h
    obtain ⟨r3, hr3, h⟩ := bind_some h
    have hr3c := fun σ => show f24_ci 37 _ σ = _ from f37_call hr3 σ
    have fx := i5 hb2 hr3c hg16 hc1 hg20
    refine rq hU (f24_ci_ok _) rgIF <| thenN <| ?_
    refine Wp.cond hU (t := !r3) rfl (fun hc4 => ?_) (fun hc4 => ?_)
    ·rw [if_t hc4] at h
     refine Wp.seq <| ?_
     have fx := i4 hg16 hc1 hg20 hc4
     refine rq hU (f24_ci_ok _) rgIF <| thenN <| Wp.ret <| thenR <| ?_
     obtain rfl := sj h
     refine ⟨.inl rfl, ?_⟩
     refine Rt.of <| ?_
     have fx := i2 f24_res f24_rt
     exact rtI
    ·rw [if_f hc4] at h
     refine Wp.skip <| thenN <| Wp.seq <| Wp.seq <| ?_
     have fx := i4 hg16 hc1 hg20 hc4
     refine rq hU (f24_ci_ok _) rgIF <| thenN <| Wp.block <| ?_
     obtain ⟨o5, ho5, h⟩ := bind_some h
     refine Wp.loop <| ?_
     refine Tw.mono (Wk.wpL (s2 := ⟨.v (.string (mkS s)) :: jj 2 (.v (.int .i64 1) :: jj 32 []), St [], none, 0⟩) ?_ (f24_l0_ok s hU 1 o5 ho5)) (fun ex s1 hp => ?_)
     ·exact Wk.weak hU [] _ (by decide) .nil wvI
     ·cases o5 with
      | ret r0 =>
       obtain ⟨rfl, hp⟩ := hp
       obtain rfl := sj h
       refine blkR <| thenR <| ?_
       exact ⟨.inl rfl, hp⟩
      | nxt wo5 =>
       obtain ⟨rfl, hp⟩ := hp
       dsimp only at h
       refine blkE <| thenN <| hp.wp <| rs hU (f24_ci_ok _) rgIF <| Wp.ret <| ?_
       obtain rfl := sj h
       refine ⟨.inl rfl, ?_⟩
       refine Rt.of <| ?_
       have fx := i2 f24_res f24_rt
       exact rtI
noncomputable def f24_tbl : CI := tbl 24 (fun p : Str => [.v (.string (mkS p))]) (fun p => (f24 p).map fun r => .v (.bool r))
theorem f24_tbl_ok {base : Nat} : CIOK E base f24_tbl := tbl_okM fun p q h => f24_ok p q h
theorem f24_call {s : Str} {r : Bool} (h : f24 s = some r) (σ : Store) : f24_tbl 24 [.v (.string (mkS s))] σ = some (.v (.bool r), σ, none) :=
 tbl_eq (x := (s)) (fun x y e => by
  exact av_str (List.cons.inj e).1) (by simp [h]) σ
end Go.Bx.Scan

/- strings.Builder's copyCheck: by hand, for it looks at its block's type. (Own text.) -/
namespace Go.Bx.Scan
set_option linter.unusedVariables false
set_option linter.unusedSimpArgs false
set_option linter.unusedSectionVars false
open Go.Proofs Go.RowKit
set_option linter.unusedVariables false
set_option linter.unusedSimpArgs false
theorem bld_info : (Try.prog.info? 57).map (·.size) = some 2 := by kernel_rfl
theorem bld_lies : liesAt Try.prog Try.prog.depth 57 (2 / Try.prog.cellsOf 57) 0 57 1 = true := by kernel_rfl
set_option maxHeartbeats 1000000 in
set_option maxRecDepth 100000 in
theorem cc_used (b : Nat) (w : World) (h0 : w.cell? ⟨b, 0, none⟩ = some (.pointer (some ⟨b, 0, none⟩))) :
    Calls Try.prog 39 #[.pointer (some ⟨b, 0, none⟩)] w fun e w' => e = .returned (.tuple #[]) ∧ w' = w := by
  obtain ⟨j, hj, _⟩ := Option.map_eq_some_iff.1 bld_info
  go_enter Try.func39, Try.ntmps39
  go_wp2
  rw [Lib.run_neq_ptr_same w _ Try.underlying54 hj]
  go_wp2
  go_end0
  exact ⟨rfl, rfl⟩
set_option maxHeartbeats 1000000 in
set_option maxRecDepth 100000 in
theorem cc_fresh (b : Nat) (w : World) (h0 : w.cell? ⟨b, 0, none⟩ = some (.pointer none)) (hsh : w.shape? b = some (57, 2)) (hfz : w.frozen? ⟨b, 0, none⟩ = false) :
    Calls Try.prog 39 #[.pointer (some ⟨b, 0, none⟩)] w fun e w' => e = .returned (.tuple #[]) ∧ w' = w.setCell ⟨b, 0, none⟩ (.pointer (some ⟨b, 0, none⟩)) := by
  obtain ⟨j, hj, hjs⟩ := Option.map_eq_some_iff.1 bld_info
  go_enter Try.func39, Try.ntmps39
  go_wp2
  rw [Lib.run_to_unsafe w ⟨b, 0, none⟩ Try.underlying54 Try.underlying84 hj (by rw [hjs]; decide) hsh (Nat.zero_lt_succ 1)]
  simp only [Result.andThen]
  rw [Oper.upon_value]
  go_wp2
  rw [run_callFunc_extern (f := 49) Try.func49 (by kernel_rfl) (by kernel_rfl) (by kernel_rfl) (e := Extern.AbiNoEscape.same) (by kernel_rfl)]
  rw [Lib.run_noEscape]
  simp only [Result.andThen]
  rw [Oper.upon_value]
  go_wp2
  rw [Lib.run_from_unsafe w ⟨b, 0, none⟩ Try.underlying84 Try.underlying54 hj hsh bld_lies]
  simp only [Result.andThen]
  rw [Oper.upon_value]
  go_wp2
  go_end0
  exact ⟨rfl, rfl⟩

/-- The store of one cell, as the world's. -/
theorem store1_run (b off : Nat) (v u0 : Value) (w : World) {t : TypeId} (ht : (Go.sizeOf t).run Try.prog w = .ok 1 w) (h1 : v.cells = #[v]) (h2 : v.oneCell' = true) (hc : w.cell? ⟨b, off, none⟩ = some u0) (hfz : w.frozen? ⟨b, off, none⟩ = false) (o : Oper) (a x : Operand) (ho : o.op = .store t a x) (ρ : Operand → Value) (ha : ρ a = .pointer (some ⟨b, off, none⟩)) (hx : ρ x = v) :
    (execOp ρ o).run Try.prog w = .ok .skip (w.setCell ⟨b, off, none⟩ v) := by
  simp [execOp, ho, ha, hx, Instr.storeAt, Instr.sureAddr, storeVar, ht, h1, storeCells, Addr.add_zero', run_store _ _ _ _ _ h2, stored, hc, hfz]
theorem f39_at (base : Nat) (σ : Store) (id : Nat) (x : AV) (h : σ.ob id = some ⟨2, false, false, [[.slf id, x]]⟩) : CallOK E base 39 [.tptr id 57] σ (.tup []) σ (some id) := by
  refine ⟨StGo.refl σ, (fun h => by cases h), ⟨_, Try.func39, rfl, by decide⟩, fun c us hI hG hus => ⟨fun _ _ _ => rfl, ?_⟩⟩
  obtain ⟨u, rfl⟩ : ∃ u, us = [u] := by
    have := hus.1
    cases us with
    | nil => simp at this
    | cons a l => cases l with
      | nil => exact ⟨a, rfl⟩
      | cons _ _ => simp at this
  have hu := hus.2 0 _ u rfl rfl
  cases hu with
  | tptr L hm ho ht =>
    have hok := hI.core.obj id _ L h hm
    obtain ⟨arr, T, h1, h2, h3⟩ := hok.mem
    have hty := (tyOf_cells h1).symm.trans ht
    simp only [Option.some.injEq, Prod.mk.injEq] at hty
    obtain ⟨rfl, has⟩ := hty
    have hsz : L.sz = 2 := hok.sz
    obtain ⟨u0, hu0, hr0, _⟩ := h3 0 _ 0 _ rfl rfl
    have hc : c.w.cell? ⟨L.b, 0, none⟩ = some u0 := by rw [cell_of h1]; rw [← hu0]; congr 1; omega
    have hsh : c.w.shape? L.b = some (57, 2) := by simp [World.shape?, h1]; omega
    have hfz : c.w.frozen? ⟨L.b, 0, none⟩ = false := by simp [World.frozen?, h1]
    cases hr0 with
    | slf0 =>
      refine (cc_fresh L.b c.w hc hsh hfz).mono ?_
      rintro e w' ⟨rfl, rfl⟩
      have hst : evStore E.T σ 54 (.ptr id 0 0) (.slf id) = some ⟨.junk, σ.put id (some ⟨2, false, false, [[.slf id, x]]⟩), some id, true⟩ := by
        simp [evStore, E_T, tab54, h, cells, leaf, putAt, pl]
      have hρ : ∀ y : Operand, Rep c ((fun y => match y with | .tmp 0 => .ptr id 0 0 | .tmp 1 => .slf id | _ => .junk) y) ((fun y => match y with | .tmp 0 => .pointer (some ⟨L.b, L.o + 0 * L.sz + 0, none⟩) | .tmp 1 => .pointer (some ⟨L.b, 0, none⟩) | _ => undef) y) := fun y => by
        dsimp only
        split
        · exact .ptr L hm
        · exact .slf L hm ho
        · exact .junk
      obtain ⟨u, c', hrun, hext, hinv, _, hfr⟩ := simB_store tabOK hI hρ { dst := none, op := .store 54 (.tmp 0) (.tmp 1), type := 0, pos := "", after := #[], guard := none } 54 (.tmp 0) (.tmp 1) rfl hst
      have hrun' := store1_run L.b 0 (.pointer (some ⟨L.b, 0, none⟩)) (.pointer none) c.w (t := 54) (siz tabOK tab54 c.w) rfl rfl hc hfz { dst := none, op := .store 54 (.tmp 0) (.tmp 1), type := 0, pos := "", after := #[], guard := none } (.tmp 0) (.tmp 1) rfl (fun y => match y with | .tmp 0 => .pointer (some ⟨L.b, L.o + 0 * L.sz + 0, none⟩) | .tmp 1 => .pointer (some ⟨L.b, 0, none⟩) | _ => undef) (by simp [ho]) rfl
      rw [hrun'] at hrun
      have hσ : σ.put id (some ⟨2, false, false, [[.slf id, x]]⟩) = σ := by
        cases σ; simp only [Store.put, Store.mk.injEq, true_and]; funext j
        by_cases hj : j = id
        · subst hj; simpa using h.symm
        · simp [hj]
      rw [hσ] at hinv
      rcases hrun with hrun | ⟨hrun, _⟩
      · cases hrun
      · injection hrun with _ hw
        exact ⟨.tuple #[], c', rfl, hw.symm, hext, hinv, .tup rfl (fun j x u h _ => by simp [import2L] at h), hfr⟩
    | slf L' hm' ho' =>
      rw [hm] at hm'; cases hm'
      refine (cc_used L.b c.w hc).mono ?_
      rintro e w' ⟨rfl, rfl⟩
      exact ⟨.tuple #[], c, rfl, rfl, Ext.refl c, hI, .tup rfl (fun j x u h _ => by simp [import2L] at h), Fr.refl _ _ _⟩
end Go.Bx.Scan

namespace Go.Bx.Scan
set_option linter.unusedVariables false
set_option linter.unusedSimpArgs false
set_option linter.unusedSectionVars false
open Go.Proofs
set_option linter.unusedSimpArgs false
set_option linter.unusedVariables false
set_option maxRecDepth 10000
set_option maxHeartbeats 4000000
/-- (*strings.Builder).WriteByte -/
def f27 (b : List Int) (c : Int) : Option (List Int) :=
 ap 1 b [c] >>= fun a1 =>
 some a1
theorem f27_res : Try.f27.results = #[.tmp 4] := rfl
def f27_S (b : List Int) (c : Int) : List (Option Obj) := [some ⟨2, false, false, [[.slf 0, .trow 1 5 ((b).length)]]⟩, some ⟨1, false, true, List.map (cInt .u8) b⟩]
theorem f27_ok (b : List Int) (c : Int) (r : List Int) (h : f27 b c = some r) : RefC E 27 2 [.tptr 0 57, .v (.int .u8 c)] (f27_S b c) (.v .nilIface) [some ⟨2, false, false, [[.slf 0, .trow 2 5 ((r).length)]]⟩, none, some ⟨1, false, true, List.map (cInt .u8) r⟩] := by
 unfold f27 at h
 refine ref_of_wp tabOK mixed (fn := Try.f27) (nt := 17) Try.func27 rfl rfl (names _ _ Try.func27) (fun _ => rfl) (refOK_of rfl) (fun base c00 hU => ?_)
 refine Wk.wp (s2 := ⟨.tptr 0 57 :: .v (.int .u8 c) :: jj 15 [], St [some ⟨2, false, false, [[.slf 0, .trow 1 5 ((b).length)]]⟩, some ⟨1, false, true, List.map (cInt .u8) b⟩], some 0, 2⟩) ?_ ?_
 ·refine Wk.weakK hU [some 0, some 1] _ (by decide) (k := 2) rfl rfl ?_ ?_
  refine .obj rfl ?_ ?_
  ·refine .mk ?_ (by simp only [bxm, leaf_ptr, leaf_slf, leaf_trow, leaf_tptr]) nofun
   refine .cons ?_ .nil
   repeat' (first | exact WVs.nil | refine WVs.cons ?_ ?_)
   all_goals first | exact WV.keep rfl | exact WV.row rfl | exact WV.ptr rfl | exact WV.slf rfl | exact WV.trow rfl
  refine .obj rfl ?_ ?_
  ·exact .same _ _ _
  ·exact .nil
  simp only [jjs, List.length_cons, List.length_nil, Nat.reduceAdd, Nat.reduceSub, List.replicate, List.cons_append, List.nil_append]
  repeat' (first | exact WVs.nil | refine WVs.cons ?_ ?_)
  all_goals first | exact WV.junk _ | exact WV.keep rfl | exact WV.row rfl | exact WV.ptr rfl | exact WV.tptr rfl | exact .agg rfl (aggKeep rfl)
 refine rs hU no_ok rgI <| Wp.seq <| ?_
 have hv2 : CallOK E base 39 [.tptr 0 57] (St [some ⟨2, false, false, [[.slf 0, .trow 1 5 ((b).length)]]⟩, some ⟨1, false, true, List.map (cInt .u8) b⟩]) (.tup []) (St [some ⟨2, false, false, [[.slf 0, .trow 1 5 ((b).length)]]⟩, some ⟨1, false, true, List.map (cInt .u8) b⟩]) (some 0) := f39_at base (St [some ⟨2, false, false, [[.slf 0, .trow 1 5 ((b).length)]]⟩, some ⟨1, false, true, List.map (cInt .u8) b⟩]) 0 _ rfl
 refine rq hU (rone_ok hv2 no_ok) rgI <| thenN <| ?_
 refine Wk.wp (s2 := ⟨.tptr 0 57 :: .v (.int .u8 c) :: jj 15 [], St [some ⟨2, false, false, [[.slf 0, .trow 1 5 ((b).length)]]⟩, some ⟨1, false, true, List.map (cInt .u8) b⟩], some 0, 2⟩) ?_ ?_
 ·exact Wk.weakK hU [some 0, some 1] _ (by decide) (k := 2) rfl rfl wsI wvI
 refine Wp.seq <| ?_
 obtain ⟨a1, ha1, h⟩ := bind_some h
 obtain ⟨ha1a, ha1b⟩ := ap_some ha1
 try simp only [List.length_cons, List.length_nil, Nat.zero_add, Nat.add_zero, Nat.reduceAdd] at ha1a
 have fx := ha1a
 refine rq hU no_ok rgIF <| thenN <| ?_
 refine Wk.wp (s2 := ⟨jj 17 [], St [some ⟨2, false, false, [[.slf 0, .trow 2 5 ((a1).length)]]⟩, none, some ⟨1, false, true, List.map (cInt .u8) a1⟩], some 0, 2⟩) ?_ ?_
 ·have fe := ha1b
  have fl := ha1b
  have fv := nofx
  exact Wk.weakK hU [some 0, some 1, some 3] _ (by decide) (k := 2) rfl rfl wsIF wvIF
 refine rs hU no_ok rgI <| Wp.ret <| ?_
 obtain rfl := sj h
 refine ⟨.inl rfl, ?_⟩
 refine RtR.wk (s2 := ⟨jj 4 (.v .nilIface :: jj 12 []), St [some ⟨2, false, false, [[.slf 0, .trow 2 5 ((a1).length)]]⟩, none, some ⟨1, false, true, List.map (cInt .u8) a1⟩], some 0, 2⟩) ?_ (RtR.of rfl rfl)
 ·have fe := ha1b
  have fl := ha1b
  have fv := nofx
  exact Wk.weakK hU [some 0, some 1, some 2] _ (by decide) (k := 2) rfl rfl wsIF wvIF
/-- (*strings.Builder).WriteString -/
def f28 (b : List Int) (s : Str) : Option (Int × (List Int)) :=
 ap 1 b (bts s) >>= fun a1 =>
 some ((s.length : Int), a1)
theorem f28_res : Try.f28.results = #[.tmp 4, .tmp 5] := rfl
def f28_S (b : List Int) (s : Str) : List (Option Obj) := [some ⟨2, false, false, [[.slf 0, .trow 1 5 ((b).length)]]⟩, some ⟨1, false, true, List.map (cInt .u8) b⟩]
theorem f28_ok (b : List Int) (s : Str) (r : Int × (List Int)) (h : f28 b s = some r) : RefC E 28 2 [.tptr 0 57, .v (.string (mkS s))] (f28_S b s) (.tup [.v (.int .i64 r.1), .v .nilIface]) [some ⟨2, false, false, [[.slf 0, .trow 2 5 ((r.2).length)]]⟩, none, some ⟨1, false, true, List.map (cInt .u8) r.2⟩] := by
 unfold f28 at h
 refine ref_of_wp tabOK mixed (fn := Try.f28) (nt := 19) Try.func28 rfl rfl (names _ _ Try.func28) (fun _ => rfl) (refOK_of rfl) (fun base c00 hU => ?_)
 refine Wk.wp (s2 := ⟨.tptr 0 57 :: .v (.string (mkS s)) :: jj 17 [], St [some ⟨2, false, false, [[.slf 0, .trow 1 5 ((b).length)]]⟩, some ⟨1, false, true, List.map (cInt .u8) b⟩], some 0, 2⟩) ?_ ?_
 ·refine Wk.weakK hU [some 0, some 1] _ (by decide) (k := 2) rfl rfl ?_ ?_
  refine .obj rfl ?_ ?_
  ·refine .mk ?_ (by simp only [bxm, leaf_ptr, leaf_slf, leaf_trow, leaf_tptr]) nofun
   refine .cons ?_ .nil
   repeat' (first | exact WVs.nil | refine WVs.cons ?_ ?_)
   all_goals first | exact WV.keep rfl | exact WV.row rfl | exact WV.ptr rfl | exact WV.slf rfl | exact WV.trow rfl
  refine .obj rfl ?_ ?_
  ·exact .same _ _ _
  ·exact .nil
  simp only [jjs, List.length_cons, List.length_nil, Nat.reduceAdd, Nat.reduceSub, List.replicate, List.cons_append, List.nil_append]
  repeat' (first | exact WVs.nil | refine WVs.cons ?_ ?_)
  all_goals first | exact WV.junk _ | exact WV.keep rfl | exact WV.row rfl | exact WV.ptr rfl | exact WV.tptr rfl | exact .agg rfl (aggKeep rfl)
 refine rs hU no_ok rgI <| Wp.seq <| ?_
 have hv2 : CallOK E base 39 [.tptr 0 57] (St [some ⟨2, false, false, [[.slf 0, .trow 1 5 ((b).length)]]⟩, some ⟨1, false, true, List.map (cInt .u8) b⟩]) (.tup []) (St [some ⟨2, false, false, [[.slf 0, .trow 1 5 ((b).length)]]⟩, some ⟨1, false, true, List.map (cInt .u8) b⟩]) (some 0) := f39_at base (St [some ⟨2, false, false, [[.slf 0, .trow 1 5 ((b).length)]]⟩, some ⟨1, false, true, List.map (cInt .u8) b⟩]) 0 _ rfl
 refine rq hU (rone_ok hv2 no_ok) rgI <| thenN <| ?_
 refine Wk.wp (s2 := ⟨.tptr 0 57 :: .v (.string (mkS s)) :: jj 17 [], St [some ⟨2, false, false, [[.slf 0, .trow 1 5 ((b).length)]]⟩, some ⟨1, false, true, List.map (cInt .u8) b⟩], some 0, 2⟩) ?_ ?_
 ·exact Wk.weakK hU [some 0, some 1] _ (by decide) (k := 2) rfl rfl wsI wvI
 refine Wp.seq <| ?_
 obtain ⟨a1, ha1, h⟩ := bind_some h
 obtain ⟨ha1a, ha1b⟩ := ap_some ha1
 try simp only [List.length_cons, List.length_nil, Nat.zero_add, Nat.add_zero, Nat.reduceAdd] at ha1a
 have fx := ha1a
 refine rq hU no_ok rgIF <| thenN <| ?_
 refine Wk.wp (s2 := ⟨jj 1 (.v (.string (mkS s)) :: jj 17 []), St [some ⟨2, false, false, [[.slf 0, .trow 2 5 ((a1).length)]]⟩, none, some ⟨1, false, true, List.map (cInt .u8) a1⟩], some 0, 2⟩) ?_ ?_
 ·have fe := ha1b
  have fl := ha1b
  have fv := nofx
  exact Wk.weakK hU [some 0, some 1, some 2] _ (by decide) (k := 2) rfl rfl wsIF wvIF
 refine rs hU no_ok rgI <| Wp.ret <| ?_
 obtain rfl := sj h
 refine ⟨.inl rfl, ?_⟩
 refine RtR.wk (s2 := ⟨jj 4 (.v (.int .i64 (s.length : Int)) :: .v .nilIface :: jj 13 []), St [some ⟨2, false, false, [[.slf 0, .trow 2 5 ((a1).length)]]⟩, none, some ⟨1, false, true, List.map (cInt .u8) a1⟩], some 0, 2⟩) ?_ (RtR.of rfl rfl)
 ·have fe := ha1b
  have fl := ha1b
  have fv := nofx
  exact Wk.weakK hU [some 0, some 1, some 2] _ (by decide) (k := 2) rfl rfl wsIF wvIF
end Go.Bx.Scan

/- strings.Builder's String: by hand, for it looks at its buffer's type. (Own text.) -/
namespace Go.Bx.Scan
set_option linter.unusedVariables false
set_option linter.unusedSimpArgs false
set_option linter.unusedSectionVars false
open Go.Proofs Go.RowKit
set_option linter.unusedVariables false
set_option linter.unusedSimpArgs false
theorem byte_cells : Try.prog.cellsOf 5 = 1 := by kernel_rfl
theorem us_none (W : World) (q : Option Addr) : (Builtin.unsafeString_ #[73, 3] 9 #[.pointer q, .int .i64 0]).run Try.prog W = .ok (.string .empty) W :=
  Lib.run_unsafeString_none W _ _ _ q
set_option maxHeartbeats 2000000 in
set_option maxRecDepth 100000 in
theorem str_row (b g : Nat) (s : Str) (cap : Nat) (cur : Array Value) (w : World) (h0 : s ≠ []) (hn : s.length ≤ cap) (hm : s.length ≤ 9223372036854775807) (hcs : cur.size = cap)
    (hb : w.cell? ⟨b, 1, none⟩ = some (.slice (some ⟨g, 0, none⟩) s.length cap)) (hg : w.heap[g]? = some (.cells cur 5 (0, 0))) (hc : ∀ (j : Nat) x, s[j]? = some x → cur[j]? = some (.int .u8 x.toNat)) :
    Calls Try.prog 29 #[.pointer (some ⟨b, 0, none⟩)] w fun e w' => e = .returned (.string (mkS s)) ∧ FzOK w w' g := by
  have hl0 : s.length ≠ 0 := by simpa using h0
  have c1 : w.drew.cell? ⟨b, 1, none⟩ = some (.slice (some ⟨g, 0, none⟩) s.length cap) := hb
  have hSD : (Builtin.unsafeSliceData_ #[55] 73 #[.slice (some ⟨g, 0, none⟩) s.length cap]).run Try.prog w.drew = .ok (.pointer (some ⟨g, 0, none⟩)) w.drew :=
    Lib.run_unsafeSliceData_row _ _ _ _ _ _ (by omega)
  have hg' : w.drew.heap[g]? = some (.cells cur 5 (0, 0)) := hg
  have hUS : (Builtin.unsafeString_ #[73, 3] 9 #[.pointer (some ⟨g, 0, none⟩), .int .i64 s.length]).run Try.prog w.drew = .ok (.string ⟨s.toArray⟩) (w.drew.freeze ⟨g, 0, none⟩ s.length) := by
    refine Lib.run_unsafeString_row w.drew 73 3 9 5 Try.underlying73 byte_cells g cur.size (by simp [World.shape?, hg']) s h0 (by omega) hm ?_
    intro j x hx
    rw [Addr.add_lit, Nat.zero_add, cell_of hg']; exact hc j x hx
  have hF : FzOK w (w.drew.freeze ⟨g, 0, none⟩ s.length) g := by
    have h := FzOK.freeze (w := w.drew) hg' s.length
    exact ⟨h.other, h.cell, h.ty, h.size, h.os, h.tape, h.output⟩
  go_enter Try.func29, Try.ntmps29
  go_wp2
  go_region
  all_goals (go_wp2; go_ret; exact ⟨rfl, hF⟩)
set_option maxHeartbeats 2000000 in
set_option maxRecDepth 100000 in
theorem str_nil (b : Nat) (w : World) (hb : w.cell? ⟨b, 1, none⟩ = some (.slice none 0 0)) :
    Calls Try.prog 29 #[.pointer (some ⟨b, 0, none⟩)] w fun e w' => e = .returned (.string ⟨#[]⟩) ∧ Below w.heap.size w w' := by
  have hUS := us_none
  have c1 : w.drew.cell? ⟨b, 1, none⟩ = some (.slice none 0 0) := hb
  have hSD : (Builtin.unsafeSliceData_ #[55] 73 #[.slice none 0 0]).run Try.prog w.drew = .ok (.pointer none) w.drew := rfl
  go_enter Try.func29, Try.ntmps29
  go_wp2
  go_region
  all_goals (go_wp2; go_ret; exact ⟨rfl, Below.drew (Below.refl _ w)⟩)
set_option maxHeartbeats 2000000 in
set_option maxRecDepth 100000 in
theorem str_room (b g cap : Nat) (w : World) (hc0 : cap ≠ 0) (hb : w.cell? ⟨b, 1, none⟩ = some (.slice (some ⟨g, 0, none⟩) 0 cap)) :
    Calls Try.prog 29 #[.pointer (some ⟨b, 0, none⟩)] w fun e w' => e = .returned (.string ⟨#[]⟩) ∧ Below w.heap.size w w' := by
  have hUS := us_none
  have c1 : w.drew.cell? ⟨b, 1, none⟩ = some (.slice (some ⟨g, 0, none⟩) 0 cap) := hb
  have hSD : (Builtin.unsafeSliceData_ #[55] 73 #[.slice (some ⟨g, 0, none⟩) 0 cap]).run Try.prog w.drew = .ok (.pointer (some ⟨g, 0, none⟩)) w.drew :=
    Lib.run_unsafeSliceData_row _ _ _ _ _ _ hc0
  clear hc0
  go_enter Try.func29, Try.ntmps29
  go_wp2
  go_region
  all_goals (go_wp2; go_ret; exact ⟨rfl, Below.drew (Below.refl _ w)⟩)
set_option maxHeartbeats 2000000 in
set_option maxRecDepth 100000 in
theorem str_noroom (b g : Nat) (cur : Array Value) (w : World) (hlt : b < w.heap.size) (hb : w.cell? ⟨b, 1, none⟩ = some (.slice (some ⟨g, 0, none⟩) 0 0)) (hg : w.heap[g]? = some (.cells cur 5 (0, 0))) :
    Calls Try.prog 29 #[.pointer (some ⟨b, 0, none⟩)] w fun e w' => e = .returned (.string ⟨#[]⟩) ∧ Below w.heap.size w w' := by
  have hUS := us_none
  have c1 : w.drew.cell? ⟨b, 1, none⟩ = some (.slice (some ⟨g, 0, none⟩) 0 0) := hb
  have hSD : (Builtin.unsafeSliceData_ #[55] 73 #[.slice (some ⟨g, 0, none⟩) 0 0]).run Try.prog w.drew = .ok (.pointer (some ⟨w.drew.heap.size, 0, none⟩)) (w.drew.alloc (.view ⟨g, 0, none⟩ 5)) :=
    Lib.run_unsafeSliceData_zero w.drew _ _ 5 Try.underlying73 ⟨g, 0, none⟩ 0 (5, cur.size) (by have hg' : w.drew.heap[g]? = some (.cells cur 5 (0, 0)) := hg; simp [World.shape?, hg'])
  have c2 : (w.drew.alloc (.view ⟨g, 0, none⟩ 5)).cell? ⟨b, 1, none⟩ = some (.slice (some ⟨g, 0, none⟩) 0 0) := (cell_alloc_old (w := w.drew) _ hlt).trans hb
  have c3 : (w.alloc (.view ⟨g, 0, none⟩ 5)).drew.cell? ⟨b, 1, none⟩ = some (.slice (some ⟨g, 0, none⟩) 0 0) := c2
  go_enter Try.func29, Try.ntmps29
  go_wp2
  go_region
  all_goals (go_wp2; go_ret; exact ⟨rfl, (Below.drew (Below.refl _ w)).alloc (Nat.le_refl _) _⟩)

/-- (*strings.Builder).String -/
def f29 (l : List Int) : Option Str := if bts (stb l) = l ∧ l.length ≤ 9223372036854775807 then some (stb l) else none
theorem f29_at (base : Nat) (L : List (Option Obj)) (id j : Nat) (l : List Int) (r : Str) (h : f29 l = some r) (h1 : L[id]? = some (some ⟨2, false, false, [[.slf id, .trow j 5 l.length]]⟩)) (h2 : L[j]? = some (some ⟨1, false, true, List.map (cInt .u8) l⟩)) :
    CallOK E base 29 [.tptr id 57] (St L) (.v (.string (mkS r))) (St (L.set j none)) (some j) := by
  have hjl : j < L.length := (List.getElem?_eq_some_iff.1 h2).1
  have hl : bts r = l ∧ r.length ≤ 9223372036854775807 := by
    unfold f29 at h
    split at h
    · rename_i hc; cases h; exact ⟨hc.1, by rw [← bts_length, hc.1]; exact hc.2⟩
    · cases h
  obtain ⟨rfl, hmax⟩ := hl
  have o1 : (St L).ob id = some ⟨2, false, false, [[.slf id, .trow j 5 (bts r).length]]⟩ := by simp [St, h1]
  have o2 : (St L).ob j = some ⟨1, false, true, List.map (cInt .u8) (bts r)⟩ := by simp [St, h2]
  rw [← St_put L j none hjl]
  generalize St L = σ at *
  refine ⟨StGo.drop _ _, (fun h => by cases h), ⟨_, Try.func29, rfl, by decide⟩, fun c us hI hG hus => ?_⟩
  obtain ⟨u, rfl⟩ : ∃ u, us = [u] := by
    have := hus.1
    cases us with
    | nil => simp at this
    | cons a l => cases l with
      | nil => exact ⟨a, rfl⟩
      | cons _ _ => simp at this
  have hu := hus.2 0 _ u rfl rfl
  cases hu with
  | tptr L hm ho ht =>
    have hok := hI.core.obj id _ L o1 hm
    obtain ⟨arr, T, q1, q2, q3⟩ := hok.mem
    have hsz : L.sz = 2 := hok.sz
    obtain ⟨u1, hu1, hr1, _⟩ := q3 0 _ 1 _ rfl rfl
    have hc : c.w.cell? ⟨L.b, 1, none⟩ = some u1 := by rw [cell_of q1]; rw [← hu1]; congr 1; omega
    have hlt : L.b < c.w.heap.size := hI.core.b_lt o1 hm
    generalize hn : (bts r).length = n at hr1
    cases hr1 with
    | trow K hmk hk1 hk2 hk3 hk4 hk5 =>
      rename_i cap
      refine ⟨fun i _ hi => ?_, ?_⟩
      · show (σ.put j none).ob i = _
        simp only [Store.put]
        by_cases hij : i = j
        · subst hij; rw [hmk] at hi; cases hi
        · rw [if_neg hij]
      have hok2 := hI.core.obj j _ K o2 hmk
      obtain ⟨arr2, T2, p1, p2, p3⟩ := hok2.mem
      have hty := (tyOf_cells p1).symm.trans hk3
      simp only [Option.some.injEq, Prod.mk.injEq] at hty
      obtain ⟨rfl, has⟩ := hty
      have hrn : r.length = n := by rw [← hn, bts_length]
      have fin : ∀ w', FzOK c.w w' K.b → ∃ v c', Ending.returned (.string (mkS r)) = .returned v ∧ c'.w = w' ∧ Ext c c' ∧ Inv (importAV (σ.put j none) (.v (.string (mkS r)))).2 c' base ∧ Rep c' (importAV (σ.put j none) (.v (.string (mkS r)))).1 v ∧ Fr c σ (some j) c' := fun w' hF => by
        obtain ⟨e1, e2, e3⟩ := hF.inv hI o2 hmk
        exact ⟨_, _, rfl, rfl, e1, e2, .v _, e3⟩
      by_cases h0 : r = []
      · subst h0
        have hn0 : n = 0 := by rw [← hrn]; rfl
        subst hn0
        by_cases hcap : cap = 0
        · subst hcap
          refine (str_noroom L.b K.b arr2 c.w hlt hc p1).mono ?_
          rintro e w' ⟨rfl, hB⟩
          exact fin w' (.below hB)
        · refine (str_room L.b K.b cap c.w hcap hc).mono ?_
          rintro e w' ⟨rfl, hB⟩
          exact fin w' (.below hB)
      · refine (str_row L.b K.b r cap arr2 c.w h0 (by omega) hmax (by omega) (by rw [hrn]; exact hc) p1 (fun k x hx => ?_)).mono ?_
        · obtain ⟨v, a1, a2, _⟩ := p3 k [.v (.int .u8 x.toNat)] 0 _ (by simp [bts, hx, cInt]) rfl
          cases a2
          rw [← a1]; congr 1; rw [hk2, hk1]; omega
        · rintro e w' ⟨rfl, hF⟩
          exact fin w' hF
    | trow0 hmk =>
      refine ⟨fun i _ hi => ?_, ?_⟩
      · show (σ.put j none).ob i = _
        simp only [Store.put]
        by_cases hij : i = j
        · subst hij; rw [hmk] at hi; cases hi
        · rw [if_neg hij]
      have h0 : r = [] := by
        have : r.length = 0 := by rw [← bts_length]; exact hn
        exact List.eq_nil_of_length_eq_zero this
      subst h0
      refine (str_nil L.b c.w hc).mono ?_
      rintro e w' ⟨rfl, hB⟩
      obtain ⟨e1, e2, e3⟩ := FzOK.inv0 (j := j) hI hB
      exact ⟨_, _, rfl, rfl, e1, e2, .v _, e3⟩
end Go.Bx.Scan

namespace Go.Bx.Scan
set_option linter.unusedVariables false
set_option linter.unusedSimpArgs false
set_option linter.unusedSectionVars false
open Go.Proofs
set_option linter.unusedSimpArgs false
set_option linter.unusedVariables false
set_option maxRecDepth 10000
set_option maxHeartbeats 4000000
/-- sibyl/scan.Name -/
def f14 (s : Str) : Option (Bool) :=
 (if (decide ((s.length : Int) ≤ 32)) = true then
  (f24 s >>= fun r2 =>
  some r2)
 else
  some false : Option (Bool)) >>= fun o1 =>
 some o1
noncomputable def f14_ci : CI := (CI.or 24 f24_tbl (fun _ _ _ => none))
theorem f14_ci_ok (base : Nat) : CIOK E base f14_ci := (or_ok f24_tbl_ok no_ok)
theorem f14_res : Try.f14.results = #[.tmp 2] := rfl
theorem f14_rt : Try.f14.resultTypes = #[4] := rfl
theorem f14_ok (s : Str) (r : Bool) (h : f14 s = some r) : PureOK E 14 [.v (.string (mkS s))] (.v (.bool r)) := by
 unfold f14 at h
 refine pof (fn := Try.f14) (nt := 10) Try.func14 rfl rfl rfl rfl (fun _ => rfl) (fun base c00 hU => ?_)
 refine Wk.wp (s2 := ⟨.v (.string (mkS s)) :: jj 9 [], St [], none, 0⟩) ?_ ?_
 ·exact Wk.weak hU [] _ (by decide) .nil wvS
 refine rs hU (f14_ci_ok _) rgI <| ?_
 obtain ⟨o1, ho1, h⟩ := bind_some h
 refine Wp.seq1 (JP := (fun ex s1 => ex = .nrm ∧ Wk base c00 nilStore s1 ⟨jj 2 (.v (.bool o1) :: jj 7 []), St [], none, 0⟩)) ?_ (fun ex s1 hp => ?_)
 ·replace h := ho1
  rcases Bool.eq_false_or_eq_true (decide ((s.length : Int) ≤ 32)) with hg3 | hg3
  ·rw [if_t hg3] at h
   obtain ⟨r2, hr2, h⟩ := bind_some h
   have hr2c := fun σ => show f14_ci 24 _ σ = _ from f24_call hr2 σ
   have fx := i2 hr2c hg3
   refine rq hU (f14_ci_ok _) rgIF <| ?_
   obtain rfl := sj h
   refine ⟨rfl, ?_⟩
   exact Wk.weak hU [] _ (by decide) .nil wvI
  ·rw [if_f hg3] at h
   have fx := hg3
   refine rq hU (f14_ci_ok _) rgIF <| ?_
   obtain rfl := sj h
   refine ⟨rfl, ?_⟩
   exact Wk.weak hU [] _ (by decide) .nil wvI
 ·obtain ⟨rfl, hp⟩ := hp
  refine thenN (hp.wp ?_)
  refine Wp.ret <| ?_
  obtain rfl := sj h
  refine ⟨.inl rfl, ?_⟩
  refine Rt.of <| ?_
  have fx := i2 f14_res f14_rt
  exact rtI
noncomputable def f14_tbl : CI := tbl 14 (fun p : Str => [.v (.string (mkS p))]) (fun p => (f14 p).map fun r => .v (.bool r))
theorem f14_tbl_ok {base : Nat} : CIOK E base f14_tbl := tbl_okM fun p q h => f14_ok p q h
theorem f14_call {s : Str} {r : Bool} (h : f14 s = some r) (σ : Store) : f14_tbl 14 [.v (.string (mkS s))] σ = some (.v (.bool r), σ, none) :=
 tbl_eq (x := (s)) (fun x y e => by
  exact av_str (List.cons.inj e).1) (by simp [h]) σ
def f21_l0 (c : Int) (s : Str) (i : Int) : Option (Ou Bool Unit) :=
 if (decide (i < (s.length : Int))) = true then
  (bt s i >>= fun b3 =>
  if (b3 == c) = true then
   (some (.ret true))
  else
   f21_l0 c s (IntKind.i64.wrap (i + 1)))
 else
  some (.nxt ())
 partial_fixpoint
/-- sibyl/sibylref04.among -/
def f21 (c : Int) (s : Str) : Option (Bool) :=
 f21_l0 c s 0 >>= fun o1 => match o1 with
 | .ret r0 => some r0
 | .nxt wo1 =>
  some false
theorem f21_res : Try.f21.results = #[.tmp 4] := rfl
theorem f21_rt : Try.f21.resultTypes = #[4] := rfl
theorem f21_l0_ok {base : Nat} {c00 : Ctx} (c : Int) (s : Str) (hU : Under E base c00 nilStore) : ∀ (i : Int) (o1 : Ou Bool Unit), f21_l0 c s i = some o1 →
  WpL E base c00 nilStore (lb Try.f21 0) ⟨.v (.int .u8 c) :: .v (.string (mkS s)) :: jj 3 (.v (.int .i64 i) :: jj 11 []), St [], none, 0⟩ (fun ex s1 => match o1 with | .ret r0 => ex = .ret ∧ Rt E base c00 Try.f21 (.v (.bool r0)) s1 | .nxt wo1 => ex = .exit 0 ∧ Wk base c00 nilStore s1 ⟨jj 17 [], St [], none, 0⟩) := by
 refine f21_l0.partial_correctness c s _ ?_
 intro lp__ ih i o1 h
 refine WpL.stepE (lbI Try.f21.eq_1) ?_
 refine Wp.seq <| rs hU no_ok rgI <| ?_
 refine Wp.cond hU (t := decide (i < (s.length : Int))) rfl (fun hc2 => ?_) (fun hc2 => ?_)
 ·rw [if_t hc2] at h
  refine Wp.skip <| thenN <| Wp.seq <| Wp.block <| Wp.seq <| ?_
  obtain ⟨b3, hb3, h⟩ := bind_some h
  have fx := i2 hb3 hc2
  refine rq hU no_ok rgIF <| thenN <| ?_
  refine Wp.cond hU (t := b3 == c) rfl (fun hc4 => ?_) (fun hc4 => ?_)
  ·rw [if_t hc4] at h
   refine Wp.seq <| ?_
   have fx := i2 hc2 hc4
   refine rq hU no_ok rgIF <| thenN <| Wp.ret <| blkR <| thenR <| againR <| ?_
   obtain rfl := sj h
   refine ⟨rfl, ?_⟩
   refine Rt.of <| ?_
   have fx := i2 f21_res f21_rt
   exact rtI
  ·rw [if_f hc4] at h
   refine Wp.skip <| blkN <| thenN <| ?_
   have fx := i2 hc2 hc4
   refine rq hU no_ok rgIF <| againN <| ?_
   refine Wk.wpL ?_ (ih (IntKind.i64.wrap (i + 1)) _ h)
   exact Wk.weak hU [] _ (by decide) .nil wvI
 ·rw [if_f hc2] at h
  refine Wp.exit <| thenE <| againE <| ?_
  obtain rfl := sj h
  refine ⟨rfl, ?_⟩
  exact Wk.weak hU [] _ (by decide) .nil wvI
theorem f21_ok (c : Int) (s : Str) (r : Bool) (h : f21 c s = some r) : PureOK E 21 [.v (.int .u8 c), .v (.string (mkS s))] (.v (.bool r)) := by
 unfold f21 at h
 refine pof (fn := Try.f21) (nt := 17) Try.func21 rfl rfl rfl rfl (fun _ => rfl) (fun base c00 hU => ?_)
 refine Wk.wp (s2 := ⟨.v (.int .u8 c) :: .v (.string (mkS s)) :: jj 15 [], St [], none, 0⟩) ?_ ?_
 ·exact Wk.weak hU [] _ (by decide) .nil wvS
 refine rs hU no_ok rgI <| Wp.seq <| rs hU no_ok rgI <| Wp.block <| ?_
 obtain ⟨o1, ho1, h⟩ := bind_some h
 refine Wp.loop <| ?_
 refine Tw.mono (Wk.wpL (s2 := ⟨.v (.int .u8 c) :: .v (.string (mkS s)) :: jj 3 (.v (.int .i64 0) :: jj 11 []), St [], none, 0⟩) ?_ (f21_l0_ok c s hU 0 o1 ho1)) (fun ex s1 hp => ?_)
 ·exact Wk.weak hU [] _ (by decide) .nil wvI
 ·cases o1 with
  | ret r0 =>
   obtain ⟨rfl, hp⟩ := hp
   obtain rfl := sj h
   refine blkR <| thenR <| ?_
   exact ⟨.inl rfl, hp⟩
  | nxt wo1 =>
   obtain ⟨rfl, hp⟩ := hp
   dsimp only at h
   refine blkE <| thenN <| hp.wp <| rs hU no_ok rgI <| Wp.ret <| ?_
   obtain rfl := sj h
   refine ⟨.inl rfl, ?_⟩
   refine Rt.of <| ?_
   have fx := i2 f21_res f21_rt
   exact rtI
noncomputable def f21_tbl : CI := tbl 21 (fun p : Int × Str => [.v (.int .u8 p.1), .v (.string (mkS p.2))]) (fun p => (f21 p.1 p.2).map fun r => .v (.bool r))
theorem f21_tbl_ok {base : Nat} : CIOK E base f21_tbl := tbl_okM fun p q h => f21_ok p.1 p.2 q h
theorem f21_call {c : Int} {s : Str} {r : Bool} (h : f21 c s = some r) (σ : Store) : f21_tbl 21 [.v (.int .u8 c), .v (.string (mkS s))] σ = some (.v (.bool r), σ, none) :=
 tbl_eq (x := (c, s)) (fun x y e => by
  obtain ⟨x0, x1⟩ := x; obtain ⟨y0, y1⟩ := y
  have e0 := av_int (List.cons.inj e).1
  have e1 := av_str (List.cons.inj (List.cons.inj e).2).1
  subst e0 e1; rfl) (by simp [h]) σ
def f46_l0 (s : Str) (i : Int) : Option (Ou Bool Unit) :=
 if (decide (i < (s.length : Int))) = true then
  (bt s i >>= fun b3 =>
  if (decide (b3 < 48)) = true then
   (some (.ret false))
  else
   if (decide (b3 > 57)) = true then
    (some (.ret false))
   else
    f46_l0 s (IntKind.i64.wrap (i + 1)))
 else
  some (.nxt ())
 partial_fixpoint
/-- sibyl/sibylref01.Digits -/
def f46 (s : Str) : Option (Bool) :=
 f46_l0 s 0 >>= fun o1 => match o1 with
 | .ret r0 => some r0
 | .nxt wo1 =>
  some (decide ((s.length : Int) > 0))
theorem f46_res : Try.f46.results = #[.tmp 2] := rfl
theorem f46_rt : Try.f46.resultTypes = #[4] := rfl
theorem f46_l0_ok {base : Nat} {c00 : Ctx} (s : Str) (hU : Under E base c00 nilStore) : ∀ (i : Int) (o1 : Ou Bool Unit), f46_l0 s i = some o1 →
  WpL E base c00 nilStore (lb Try.f46 0) ⟨.v (.string (mkS s)) :: jj 2 (.v (.int .i64 i) :: jj 19 []), St [], none, 0⟩ (fun ex s1 => match o1 with | .ret r0 => ex = .ret ∧ Rt E base c00 Try.f46 (.v (.bool r0)) s1 | .nxt wo1 => ex = .exit 0 ∧ Wk base c00 nilStore s1 ⟨.v (.string (mkS s)) :: jj 22 [], St [], none, 0⟩) := by
 refine f46_l0.partial_correctness s _ ?_
 intro lp__ ih i o1 h
 refine WpL.stepE (lbI Try.f46.eq_1) ?_
 refine Wp.seq <| rs hU no_ok rgI <| ?_
 refine Wp.cond hU (t := decide (i < (s.length : Int))) rfl (fun hc2 => ?_) (fun hc2 => ?_)
 ·rw [if_t hc2] at h
  refine Wp.skip <| thenN <| Wp.seq <| Wp.block <| Wp.seq <| ?_
  obtain ⟨b3, hb3, h⟩ := bind_some h
  rcases Bool.eq_false_or_eq_true (decide (b3 < 48)) with hg20 | hg20
  ·rw [if_t hg20] at h
   have fx := i3 hb3 hc2 hg20
   refine rq hU no_ok rgIF <| thenN <| ?_
   refine Wp.cond hU (t := true) rfl (fun _ => ?_) (fun hc => by cases hc)
   refine Wp.seq <| ?_
   have fx := i2 hc2 hg20
   refine rq hU no_ok rgIF <| thenN <| Wp.ret <| blkR <| thenR <| againR <| ?_
   obtain rfl := sj h
   refine ⟨rfl, ?_⟩
   refine Rt.of <| ?_
   have fx := i2 f46_res f46_rt
   exact rtI
  ·rw [if_f hg20] at h
   have fx := i3 hb3 hc2 hg20
   refine rq hU no_ok rgIF <| thenN <| ?_
   refine Wp.cond hU (t := decide (b3 > 57)) rfl (fun hc4 => ?_) (fun hc4 => ?_)
   ·rw [if_t hc4] at h
    refine Wp.seq <| ?_
    have fx := i3 hc2 hg20 hc4
    refine rq hU no_ok rgIF <| thenN <| Wp.ret <| blkR <| thenR <| againR <| ?_
    obtain rfl := sj h
    refine ⟨rfl, ?_⟩
    refine Rt.of <| ?_
    have fx := i2 f46_res f46_rt
    exact rtI
   ·rw [if_f hc4] at h
    refine Wp.skip <| blkN <| thenN <| ?_
    have fx := i3 hc2 hg20 hc4
    refine rq hU no_ok rgIF <| againN <| ?_
    refine Wk.wpL ?_ (ih (IntKind.i64.wrap (i + 1)) _ h)
    exact Wk.weak hU [] _ (by decide) .nil wvI
 ·rw [if_f hc2] at h
  refine Wp.exit <| thenE <| againE <| ?_
  obtain rfl := sj h
  refine ⟨rfl, ?_⟩
  exact Wk.weak hU [] _ (by decide) .nil wvI
theorem f46_ok (s : Str) (r : Bool) (h : f46 s = some r) : PureOK E 46 [.v (.string (mkS s))] (.v (.bool r)) := by
 unfold f46 at h
 refine pof (fn := Try.f46) (nt := 23) Try.func46 rfl rfl rfl rfl (fun _ => rfl) (fun base c00 hU => ?_)
 refine Wk.wp (s2 := ⟨.v (.string (mkS s)) :: jj 22 [], St [], none, 0⟩) ?_ ?_
 ·exact Wk.weak hU [] _ (by decide) .nil wvS
 refine rs hU no_ok rgI <| Wp.seq <| rs hU no_ok rgI <| Wp.block <| ?_
 obtain ⟨o1, ho1, h⟩ := bind_some h
 refine Wp.loop <| ?_
 refine Tw.mono (Wk.wpL (s2 := ⟨.v (.string (mkS s)) :: jj 2 (.v (.int .i64 0) :: jj 19 []), St [], none, 0⟩) ?_ (f46_l0_ok s hU 0 o1 ho1)) (fun ex s1 hp => ?_)
 ·exact Wk.weak hU [] _ (by decide) .nil wvI
 ·cases o1 with
  | ret r0 =>
   obtain ⟨rfl, hp⟩ := hp
   obtain rfl := sj h
   refine blkR <| thenR <| ?_
   exact ⟨.inl rfl, hp⟩
  | nxt wo1 =>
   obtain ⟨rfl, hp⟩ := hp
   dsimp only at h
   refine blkE <| thenN <| hp.wp <| rs hU no_ok rgI <| Wp.ret <| ?_
   obtain rfl := sj h
   refine ⟨.inl rfl, ?_⟩
   refine Rt.of <| ?_
   have fx := i2 f46_res f46_rt
   exact rtI
noncomputable def f46_tbl : CI := tbl 46 (fun p : Str => [.v (.string (mkS p))]) (fun p => (f46 p).map fun r => .v (.bool r))
theorem f46_tbl_ok {base : Nat} : CIOK E base f46_tbl := tbl_okM fun p q h => f46_ok p q h
theorem f46_call {s : Str} {r : Bool} (h : f46 s = some r) (σ : Store) : f46_tbl 46 [.v (.string (mkS s))] σ = some (.v (.bool r), σ, none) :=
 tbl_eq (x := (s)) (fun x y e => by
  exact av_str (List.cons.inj e).1) (by simp [h]) σ
def f34_l0 (o1 : Str × Bool) (i : Int) : Option (Str × Str) :=
 if (decide (i < (o1.1.length : Int))) = true then
  (bt o1.1 i >>= fun b4 =>
  if (b4 == 47) = true then
   (cutL o1.1 0 i >>= fun p6 =>
   cutL o1.1 (IntKind.i64.wrap (i + 1)) (o1.1.length : Int) >>= fun p7 =>
   some (p6, p7))
  else
   f34_l0 o1 (IntKind.i64.wrap (i + 1)))
 else
  some (o1.1, [49])
 partial_fixpoint
def f34_l1 (o1 : Str × Bool) (o2 : Str × Str) (i : Int) : Option (Ou (Bool × Str × Str × Bool) Unit) :=
 if (decide (i < (o2.2.length : Int))) = true then
  (bt o2.2 i >>= fun b13 =>
  if (b13 != 48) = true then
   (some (.ret (o1.2, o2.1, o2.2, true)))
  else
   f34_l1 o1 o2 (IntKind.i64.wrap (i + 1)))
 else
  some (.nxt ())
 partial_fixpoint
/-- sibyl/sibylref02.Cut -/
def f34 (s : Str) : Option (Bool × Str × Str × Bool) :=
 (if (decide ((s.length : Int) > 0)) = true then
  (bt s 0 >>= fun b2 =>
  if (b2 == 43) = true then
   (bt s 0 >>= fun b3 =>
   cutL s 1 (s.length : Int) >>= fun p4 =>
   some (p4, b3 == 45))
  else
   if (b2 == 45) = true then
    (bt s 0 >>= fun b4 =>
    cutL s 1 (s.length : Int) >>= fun p5 =>
    some (p5, b4 == 45))
   else
    some (s, false))
 else
  some (s, false) : Option (Str × Bool)) >>= fun o1 =>
 f34_l0 o1 0 >>= fun o2 =>
 f46 o2.1 >>= fun r8 =>
 if (!r8) = true then
  (some (false, [], [], false))
 else
  f46 o2.2 >>= fun r9 =>
  if (!r9) = true then
   (some (false, [], [], false))
  else
   f34_l1 o1 o2 0 >>= fun o11 => match o11 with
   | .ret r0 => some r0
   | .nxt wo11 =>
    some (false, [], [], false)
noncomputable def f34_ci : CI := (CI.or 46 f46_tbl (fun _ _ _ => none))
theorem f34_ci_ok (base : Nat) : CIOK E base f34_ci := (or_ok f46_tbl_ok no_ok)
theorem f34_res : Try.f34.results = #[.tmp 2, .tmp 3, .tmp 4, .tmp 5] := rfl
theorem f34_rt : Try.f34.resultTypes = #[4, 9, 9, 4] := rfl
theorem f34_l0_ok {base : Nat} {c00 : Ctx} (o1 : Str × Bool) (hU : Under E base c00 nilStore) : ∀ (i : Int) (o2 : Str × Str), f34_l0 o1 i = some o2 →
  WpL E base c00 nilStore (lb Try.f34 0) ⟨.v (.string (mkS o1.1)) :: jj 5 (.v (.bool o1.2) :: .v (.string (mkS o1.1)) :: .v (.string (mkS [49])) :: .v (.int .i64 i) :: jj 58 []), St [], none, 0⟩ (fun ex s1 => ex = .exit 0 ∧ Wk base c00 nilStore s1 ⟨jj 6 (.v (.bool o1.2) :: .v (.string (mkS o2.1)) :: .v (.string (mkS o2.2)) :: jj 59 []), St [], none, 0⟩) := by
 refine f34_l0.partial_correctness o1 _ ?_
 intro lp__ ih i o2 h
 refine WpL.stepE (lbI Try.f34.eq_1) ?_
 refine Wp.seq <| rs hU (f34_ci_ok _) rgI <| ?_
 refine Wp.cond hU (t := decide (i < (o1.1.length : Int))) rfl (fun hc3 => ?_) (fun hc3 => ?_)
 ·rw [if_t hc3] at h
  refine Wp.skip <| thenN <| Wp.seq <| Wp.block <| Wp.seq <| ?_
  obtain ⟨b4, hb4, h⟩ := bind_some h
  have fx := i2 hb4 hc3
  refine rq hU (f34_ci_ok _) rgIF <| thenN <| ?_
  refine Wp.cond hU (t := b4 == 47) rfl (fun hc5 => ?_) (fun hc5 => ?_)
  ·rw [if_t hc5] at h
   refine Wp.seq <| ?_
   obtain ⟨p6, hp6, h⟩ := bind_some h
   obtain ⟨hp6a, hp6b, hp6c, hp6d, hp6e, hp6f⟩ := cutL_some hp6
   try simp only [Int.toNat_natCast] at hp6c hp6d
   try simp only [Int.toNat_natCast, Int.toNat_zero, List.drop_zero, Nat.sub_zero] at hp6e hp6f
   obtain ⟨p7, hp7, h⟩ := bind_some h
   obtain ⟨hp7a, hp7b, hp7c, hp7d, hp7e, hp7f⟩ := cutL_some hp7
   try simp only [Int.toNat_natCast] at hp7c hp7d
   try simp only [Int.toNat_natCast, Int.toNat_zero, List.drop_zero, Nat.sub_zero] at hp7e hp7f
   have fx := i9 hp6a hp6b hp6c hp6d hp6e.symm hp7a hp7b hp7c (i4 hp7d hp7e.symm hc3 hc5)
   refine Wp.regionT hU (f34_ci_ok _) rgIS (by kernel_rfl) <| thenN <| Wp.exit <| ?_
   refine blkX (by decide) ?_
   refine thenE <| againE <| ?_
   obtain rfl := sj h
   refine ⟨rfl, ?_⟩
   have fe := i2 hp6e hp7e
   have fl := i2 hp6f hp7f
   have fv := i6 hp6e hp7e hp6c hp6d hp7c hp7d
   exact Wk.weak hU [] _ (by decide) .nil wvIF
  ·rw [if_f hc5] at h
   refine Wp.skip <| blkN <| thenN <| ?_
   have fx := i2 hc3 hc5
   refine rq hU (f34_ci_ok _) rgIF <| againN <| ?_
   refine Wk.wpL ?_ (ih (IntKind.i64.wrap (i + 1)) _ h)
   exact Wk.weak hU [] _ (by decide) .nil wvI
 ·rw [if_f hc3] at h
  refine Wp.exit <| thenE <| againE <| ?_
  obtain rfl := sj h
  refine ⟨rfl, ?_⟩
  exact Wk.weak hU [] _ (by decide) .nil wvI
theorem f34_l1_ok {base : Nat} {c00 : Ctx} (o1 : Str × Bool) (o2 : Str × Str) (hU : Under E base c00 nilStore) : ∀ (i : Int) (o11 : Ou (Bool × Str × Str × Bool) Unit), f34_l1 o1 o2 i = some o11 →
  WpL E base c00 nilStore (lb Try.f34 1) ⟨jj 6 (.v (.bool o1.2) :: .v (.string (mkS o2.1)) :: .v (.string (mkS o2.2)) :: jj 1 (.v (.int .i64 i) :: jj 57 [])), St [], none, 0⟩ (fun ex s1 => match o11 with | .ret r0 => ex = .ret ∧ Rt E base c00 Try.f34 (.tup [.v (.bool r0.1), .v (.string (mkS r0.2.1)), .v (.string (mkS r0.2.2.1)), .v (.bool r0.2.2.2)]) s1 | .nxt wo11 => ex = .exit 2 ∧ Wk base c00 nilStore s1 ⟨jj 68 [], St [], none, 0⟩) := by
 refine f34_l1.partial_correctness o1 o2 _ ?_
 intro lp__ ih i o11 h
 refine WpL.stepE (lbI Try.f34.eq_1) ?_
 refine Wp.seq <| rs hU (f34_ci_ok _) rgI <| ?_
 refine Wp.cond hU (t := decide (i < (o2.2.length : Int))) rfl (fun hc12 => ?_) (fun hc12 => ?_)
 ·rw [if_t hc12] at h
  refine Wp.skip <| thenN <| Wp.seq <| Wp.block <| Wp.seq <| ?_
  obtain ⟨b13, hb13, h⟩ := bind_some h
  have fx := i2 hb13 hc12
  refine rq hU (f34_ci_ok _) rgIF <| thenN <| ?_
  refine Wp.cond hU (t := b13 != 48) rfl (fun hc14 => ?_) (fun hc14 => ?_)
  ·rw [if_t hc14] at h
   refine Wp.seq <| ?_
   have fx := i2 hc12 hc14
   refine rq hU (f34_ci_ok _) rgIF <| thenN <| Wp.ret <| blkR <| thenR <| againR <| ?_
   obtain rfl := sj h
   refine ⟨rfl, ?_⟩
   refine Rt.of <| ?_
   have fx := i2 f34_res f34_rt
   exact rtI
  ·rw [if_f hc14] at h
   refine Wp.skip <| blkN <| thenN <| ?_
   have fx := i2 hc12 hc14
   refine rq hU (f34_ci_ok _) rgIF <| againN <| ?_
   refine Wk.wpL ?_ (ih (IntKind.i64.wrap (i + 1)) _ h)
   exact Wk.weak hU [] _ (by decide) .nil wvI
 ·rw [if_f hc12] at h
  refine Wp.exit <| thenE <| againE <| ?_
  obtain rfl := sj h
  refine ⟨rfl, ?_⟩
  exact Wk.weak hU [] _ (by decide) .nil wvI
theorem f34_ok (s : Str) (r : Bool × Str × Str × Bool) (h : f34 s = some r) : PureOK E 34 [.v (.string (mkS s))] (.tup [.v (.bool r.1), .v (.string (mkS r.2.1)), .v (.string (mkS r.2.2.1)), .v (.bool r.2.2.2)]) := by
 unfold f34 at h
 refine pof (fn := Try.f34) (nt := 68) Try.func34 rfl rfl rfl rfl (fun _ => rfl) (fun base c00 hU => ?_)
 refine Wk.wp (s2 := ⟨.v (.string (mkS s)) :: jj 67 [], St [], none, 0⟩) ?_ ?_
 ·exact Wk.weak hU [] _ (by decide) .nil wvS
 refine rs hU (f34_ci_ok _) rgI <| rs hU (f34_ci_ok _) rgI <| ?_
 obtain ⟨o1, ho1, h⟩ := bind_some h
 refine Wp.seq1 (JP := (fun ex s1 => ex = .nrm ∧ Wk base c00 nilStore s1 ⟨.v (.string (mkS o1.1)) :: jj 5 (.v (.bool o1.2) :: jj 61 []), St [], none, 0⟩)) ?_ (fun ex s1 hp => ?_)
 ·replace h := ho1
  refine Wp.seq <| ?_
  rcases Bool.eq_false_or_eq_true (decide ((s.length : Int) > 0)) with hg15 | hg15
  ·rw [if_t hg15] at h
   obtain ⟨b2, hb2, h⟩ := bind_some h
   rcases Bool.eq_false_or_eq_true (b2 == 43) with hg16 | hg16
   ·rw [if_t hg16] at h
    have fx := i3 hb2 hg15 hg16
    refine rq hU (f34_ci_ok _) rgIF <| thenN <| ?_
    refine Wp.cond hU (t := true) rfl (fun _ => ?_) (fun hc => by cases hc)
    refine Wp.seq <| ?_
    obtain ⟨b3, hb3, h⟩ := bind_some h
    have fx := i3 hb3 hg15 hg16
    refine rq hU (f34_ci_ok _) rgIF <| thenN <| ?_
    obtain ⟨p4, hp4, h⟩ := bind_some h
    obtain ⟨hp4a, hp4b, hp4c, hp4d, hp4e, hp4f⟩ := cutL_some hp4
    try simp only [Int.toNat_natCast] at hp4c hp4d
    try simp only [Int.toNat_natCast, Int.toNat_zero, List.drop_zero, Nat.sub_zero] at hp4e hp4f
    have fx := i7 hp4a hp4b hp4c hp4d hp4e.symm hg15 hg16
    refine rq hU (f34_ci_ok _) rgIS <| ?_
    obtain rfl := sj h
    refine ⟨rfl, ?_⟩
    have fe := hp4e
    have fl := hp4f
    have fv := i3 hp4e hp4c hp4d
    exact Wk.weak hU [] _ (by decide) .nil wvIF
   ·rw [if_f hg16] at h
    have fx := i3 hb2 hg15 hg16
    refine rq hU (f34_ci_ok _) rgIF <| thenN <| ?_
    refine Wp.cond hU (t := b2 == 45) rfl (fun hc3 => ?_) (fun hc3 => ?_)
    ·rw [if_t hc3] at h
     refine Wp.seq <| ?_
     obtain ⟨b4, hb4, h⟩ := bind_some h
     have fx := i4 hb4 hg15 hg16 hc3
     refine rq hU (f34_ci_ok _) rgIF <| thenN <| ?_
     obtain ⟨p5, hp5, h⟩ := bind_some h
     obtain ⟨hp5a, hp5b, hp5c, hp5d, hp5e, hp5f⟩ := cutL_some hp5
     try simp only [Int.toNat_natCast] at hp5c hp5d
     try simp only [Int.toNat_natCast, Int.toNat_zero, List.drop_zero, Nat.sub_zero] at hp5e hp5f
     have fx := i8 hp5a hp5b hp5c hp5d hp5e.symm hg15 hg16 hc3
     refine rq hU (f34_ci_ok _) rgIS <| ?_
     obtain rfl := sj h
     refine ⟨rfl, ?_⟩
     have fe := hp5e
     have fl := hp5f
     have fv := i3 hp5e hp5c hp5d
     exact Wk.weak hU [] _ (by decide) .nil wvIF
    ·rw [if_f hc3] at h
     refine Wp.skip <| ?_
     obtain rfl := sj h
     refine ⟨rfl, ?_⟩
     exact Wk.weak hU [] _ (by decide) .nil wvI
  ·rw [if_f hg15] at h
   have fx := hg15
   refine rq hU (f34_ci_ok _) rgIF <| thenN <| ?_
   refine Wp.cond hU (t := false) rfl (fun hc => by cases hc) (fun _ => ?_)
   refine Wp.skip <| ?_
   obtain rfl := sj h
   refine ⟨rfl, ?_⟩
   exact Wk.weak hU [] _ (by decide) .nil wvI
 ·obtain ⟨rfl, hp⟩ := hp
  refine thenN (hp.wp ?_)
  refine rs hU (f34_ci_ok _) rgI <| Wp.seq <| rs hU (f34_ci_ok _) rgI <| Wp.block <| ?_
  obtain ⟨o2, ho2, h⟩ := bind_some h
  refine Wp.loop <| ?_
  refine Tw.mono (Wk.wpL (s2 := ⟨.v (.string (mkS o1.1)) :: jj 5 (.v (.bool o1.2) :: .v (.string (mkS o1.1)) :: .v (.string (mkS [49])) :: .v (.int .i64 0) :: jj 58 []), St [], none, 0⟩) ?_ (f34_l0_ok o1 hU 0 o2 ho2)) (fun ex s1 hp => ?_)
  ·exact Wk.weak hU [] _ (by decide) .nil wvI
  ·obtain ⟨rfl, hp⟩ := hp
   refine blkE <| thenN <| hp.wp <| Wp.seq <| Wp.seq <| ?_
   obtain ⟨r8, hr8, h⟩ := bind_some h
   have hr8c := fun σ => show f34_ci 46 _ σ = _ from f46_call hr8 σ
   rcases Bool.eq_false_or_eq_true (!r8) with hg20 | hg20
   ·rw [if_t hg20] at h
    have fx := i2 hr8c hg20
    refine rq hU (f34_ci_ok _) rgIF <| thenN <| ?_
    refine Wp.cond hU (t := true) rfl (fun _ => ?_) (fun hc => by cases hc)
    refine Wp.seq <| ?_
    have fx := hg20
    refine rq hU (f34_ci_ok _) rgIF <| thenN <| Wp.ret <| thenR <| ?_
    obtain rfl := sj h
    refine ⟨.inl rfl, ?_⟩
    refine Rt.of <| ?_
    have fx := i2 f34_res f34_rt
    exact rtI
   ·rw [if_f hg20] at h
    obtain ⟨r9, hr9, h⟩ := bind_some h
    have hr9c := fun σ => show f34_ci 46 _ σ = _ from f46_call hr9 σ
    have fx := i3 hr8c hr9c hg20
    refine rq hU (f34_ci_ok _) rgIF <| thenN <| ?_
    refine Wp.cond hU (t := !r9) rfl (fun hc10 => ?_) (fun hc10 => ?_)
    ·rw [if_t hc10] at h
     refine Wp.seq <| ?_
     have fx := i2 hg20 hc10
     refine rq hU (f34_ci_ok _) rgIF <| thenN <| Wp.ret <| thenR <| ?_
     obtain rfl := sj h
     refine ⟨.inl rfl, ?_⟩
     refine Rt.of <| ?_
     have fx := i2 f34_res f34_rt
     exact rtI
    ·rw [if_f hc10] at h
     refine Wp.skip <| thenN <| Wp.seq <| Wp.seq <| ?_
     have fx := i2 hg20 hc10
     refine rq hU (f34_ci_ok _) rgIF <| thenN <| Wp.block <| ?_
     obtain ⟨o11, ho11, h⟩ := bind_some h
     refine Wp.loop <| ?_
     refine Tw.mono (Wk.wpL (s2 := ⟨jj 6 (.v (.bool o1.2) :: .v (.string (mkS o2.1)) :: .v (.string (mkS o2.2)) :: jj 1 (.v (.int .i64 0) :: jj 57 [])), St [], none, 0⟩) ?_ (f34_l1_ok o1 o2 hU 0 o11 ho11)) (fun ex s1 hp => ?_)
     ·exact Wk.weak hU [] _ (by decide) .nil wvI
     ·cases o11 with
      | ret r0 =>
       obtain ⟨rfl, hp⟩ := hp
       obtain rfl := sj h
       refine blkR <| thenR <| ?_
       exact ⟨.inl rfl, hp⟩
      | nxt wo11 =>
       obtain ⟨rfl, hp⟩ := hp
       dsimp only at h
       refine blkE <| thenN <| hp.wp <| rs hU (f34_ci_ok _) rgIF <| Wp.ret <| ?_
       obtain rfl := sj h
       refine ⟨.inl rfl, ?_⟩
       refine Rt.of <| ?_
       have fx := i2 f34_res f34_rt
       exact rtI
noncomputable def f34_tbl : CI := tbl 34 (fun p : Str => [.v (.string (mkS p))]) (fun p => (f34 p).map fun r => .tup [.v (.bool r.1), .v (.string (mkS r.2.1)), .v (.string (mkS r.2.2.1)), .v (.bool r.2.2.2)])
theorem f34_tbl_ok {base : Nat} : CIOK E base f34_tbl := tbl_okM fun p q h => f34_ok p q h
theorem f34_call {s : Str} {r : Bool × Str × Str × Bool} (h : f34 s = some r) (σ : Store) : f34_tbl 34 [.v (.string (mkS s))] σ = some (.tup [.v (.bool r.1), .v (.string (mkS r.2.1)), .v (.string (mkS r.2.2.1)), .v (.bool r.2.2.2)], σ, none) :=
 tbl_eq (x := (s)) (fun x y e => by
  exact av_str (List.cons.inj e).1) (by simp [h]) σ
def f56_l0 (a : List Int) (n : Int) : Option (Int) :=
 if (decide (n > 0)) = true then
  (rd a (IntKind.i64.wrap (n - 1)) >>= fun e2 =>
  if (e2 == 0) = true then
   (f56_l0 a (IntKind.i64.wrap (n - 1)))
  else
   some n)
 else
  some n
 partial_fixpoint
def f56_l1 (a : List Int) (o1 : Int) (out : List Int) (i : Int) : Option ((List Int)) :=
 if (decide (i < o1)) = true then
  (rd a i >>= fun e4 =>
  ap 4 out [e4] >>= fun a5 =>
  f56_l1 a o1 a5 (IntKind.i64.wrap (i + 1)))
 else
  some out
 partial_fixpoint
/-- sibyl/sibylref01.Trim -/
def f56 (a : List Int) : Option (List Int) :=
 f56_l0 a (a.length : Int) >>= fun o1 =>
 f56_l1 a o1 [] 0 >>= fun o2 =>
 some o2
theorem f56_res : Try.f56.results = #[.tmp 2] := rfl
theorem f56_rt : Try.f56.resultTypes = #[36] := rfl
theorem f56_l0_ok {base : Nat} {c00 : Ctx} (a : List Int) (hU : Under E base c00 nilStore) : ∀ (n : Int) (o1 : Int), f56_l0 a n = some o1 →
  WpL E base c00 nilStore (lb Try.f56 0) ⟨.sl (List.map (cInt .u32) a) :: jj 2 (.v (.int .i64 n) :: jj 29 []), St [], none, 0⟩ (fun ex s1 => ex = .exit 0 ∧ Wk base c00 nilStore s1 ⟨.sl (List.map (cInt .u32) a) :: jj 2 (.v (.int .i64 o1) :: jj 29 []), St [], none, 0⟩) := by
 refine f56_l0.partial_correctness a _ ?_
 intro lp__ ih n o1 h
 refine WpL.stepE (lbI Try.f56.eq_1) ?_
 refine Wp.seq <| Wp.seq <| ?_
 rcases Bool.eq_false_or_eq_true (decide (n > 0)) with hg36 | hg36
 ·rw [if_t hg36] at h
  obtain ⟨e2, he2, h⟩ := bind_some h
  obtain ⟨he2a, he2b, he2c⟩ := rd_some he2
  have fx := i4 he2a he2b he2c hg36
  refine rq hU no_ok rgIF <| thenN <| ?_
  refine Wp.cond hU (t := e2 == 0) rfl (fun hc3 => ?_) (fun hc3 => ?_)
  ·rw [if_t hc3] at h
   refine Wp.skip <| thenN <| Wp.block <| ?_
   have fx := i2 hg36 hc3
   refine rq hU no_ok rgIF <| blkN <| againN <| ?_
   refine Wk.wpL ?_ (ih (IntKind.i64.wrap (n - 1)) _ h)
   exact Wk.weak hU [] _ (by decide) .nil wvI
  ·rw [if_f hc3] at h
   refine Wp.exit <| thenE <| againE <| ?_
   obtain rfl := sj h
   refine ⟨rfl, ?_⟩
   exact Wk.weak hU [] _ (by decide) .nil wvI
 ·rw [if_f hg36] at h
  have fx := hg36
  refine rq hU no_ok rgIF <| thenN <| ?_
  refine Wp.cond hU (t := false) rfl (fun hc => by cases hc) (fun _ => ?_)
  refine Wp.exit <| thenE <| againE <| ?_
  obtain rfl := sj h
  refine ⟨rfl, ?_⟩
  exact Wk.weak hU [] _ (by decide) .nil wvI
theorem f56_l1_ok {base : Nat} {c00 : Ctx} (a : List Int) (o1 : Int) (hU : Under E base c00 nilStore) : ∀ (out : List Int) (i : Int) (o2 : (List Int)), f56_l1 a o1 out i = some o2 →
  WpL E base c00 nilStore (lb Try.f56 1) ⟨.sl (List.map (cInt .u32) a) :: jj 2 (.v (.int .i64 o1) :: .row 0 1 0 ((out).length) :: .v (.int .i64 i) :: jj 27 []), St [some ⟨1, false, true, List.map (cInt .u32) out⟩], none, 0⟩ (fun ex s1 => ex = .exit 2 ∧ Wk base c00 nilStore s1 ⟨jj 4 (.row 0 1 0 ((o2).length) :: jj 28 []), St [some ⟨1, false, true, List.map (cInt .u32) o2⟩], none, 0⟩) := by
 refine f56_l1.partial_correctness a o1 _ ?_
 intro lp__ ih out i o2 h
 refine WpL.stepE (lbI Try.f56.eq_1) ?_
 refine Wp.seq <| rs hU no_ok rgI <| ?_
 refine Wp.cond hU (t := decide (i < o1)) rfl (fun hc3 => ?_) (fun hc3 => ?_)
 ·rw [if_t hc3] at h
  refine Wp.skip <| thenN <| Wp.seq <| Wp.block <| ?_
  obtain ⟨e4, he4, h⟩ := bind_some h
  obtain ⟨he4a, he4b, he4c⟩ := rd_some he4
  obtain ⟨a5, ha5, h⟩ := bind_some h
  obtain ⟨ha5a, ha5b⟩ := ap_some ha5
  try simp only [List.length_cons, List.length_nil, Nat.zero_add, Nat.add_zero, Nat.reduceAdd] at ha5a
  have fx := i5 he4a he4b he4c ha5a hc3
  refine rq hU no_ok rgIF <| blkN <| thenN <| ?_
  refine Wk.wp (s2 := ⟨.sl (List.map (cInt .u32) a) :: jj 2 (.v (.int .i64 o1) :: .row 0 1 0 ((a5).length) :: .v (.int .i64 i) :: jj 27 []), St [some ⟨1, false, true, List.map (cInt .u32) a5⟩], none, 0⟩) ?_ ?_
  ·have fe := ha5b
   have fl := ha5b
   have fv := nofx
   exact Wk.weak hU [some 2] _ (by decide) wsIF wvIF
  have fx := hc3
  refine rq hU no_ok rgIF <| againN <| ?_
  refine Wk.wpL ?_ (ih a5 (IntKind.i64.wrap (i + 1)) _ h)
  have fe := ha5b
  have fl := ha5b
  have fv := nofx
  exact Wk.weak hU [some 0] _ (by decide) wsIF wvIF
 ·rw [if_f hc3] at h
  refine Wp.exit <| thenE <| againE <| ?_
  obtain rfl := sj h
  refine ⟨rfl, ?_⟩
  exact Wk.weak hU [some 0] _ (by decide) wsI wvI
theorem f56_ok (a : List Int) (r : List Int) (h : f56 a = some r) : PureOK E 56 [.sl (List.map (cInt .u32) a)] (.own false 1 (List.map (cInt .u32) r)) := by
 unfold f56 at h
 refine pof (fn := Try.f56) (nt := 33) Try.func56 rfl rfl rfl rfl (fun _ => rfl) (fun base c00 hU => ?_)
 refine Wk.wp (s2 := ⟨.sl (List.map (cInt .u32) a) :: jj 32 [], St [], none, 0⟩) ?_ ?_
 ·exact Wk.weak hU [] _ (by decide) .nil wvS
 refine rs hU no_ok rgI <| rs hU no_ok rgI <| Wp.seq <| Wp.block <| ?_
 obtain ⟨o1, ho1, h⟩ := bind_some h
 refine Wp.loop <| ?_
 refine Tw.mono (Wk.wpL (s2 := ⟨.sl (List.map (cInt .u32) a) :: jj 2 (.v (.int .i64 (a.length : Int)) :: jj 29 []), St [], none, 0⟩) ?_ (f56_l0_ok a hU (a.length : Int) o1 ho1)) (fun ex s1 hp => ?_)
 ·exact Wk.weak hU [] _ (by decide) .nil wvI
 ·obtain ⟨rfl, hp⟩ := hp
  refine blkE <| thenN <| hp.wp <| rs hU no_ok rgI <| Wp.seq <| rs hU no_ok rgI <| Wp.block <| ?_
  obtain ⟨o2, ho2, h⟩ := bind_some h
  refine Wp.loop <| ?_
  refine Tw.mono (Wk.wpL (s2 := ⟨.sl (List.map (cInt .u32) a) :: jj 2 (.v (.int .i64 o1) :: .row 0 1 0 (0) :: .v (.int .i64 0) :: jj 27 []), St [some ⟨1, false, true, List.map (cInt .u32) []⟩], none, 0⟩) ?_ (f56_l1_ok a o1 hU [] 0 o2 ho2)) (fun ex s1 hp => ?_)
  ·exact Wk.weak hU [none] _ (by decide) wsI wvI
  ·obtain ⟨rfl, hp⟩ := hp
   refine blkE <| thenN <| hp.wp <| rs hU no_ok rgI <| Wp.ret <| ?_
   obtain rfl := sj h
   refine ⟨.inl rfl, ?_⟩
   refine Rt.of <| ?_
   have fx := i2 f56_res f56_rt
   exact rtI
noncomputable def f56_tbl : CI := tbl 56 (fun p : (List Int) => [.sl (List.map (cInt .u32) p)]) (fun p => (f56 p).map fun r => .own false 1 (List.map (cInt .u32) r))
theorem f56_tbl_ok {base : Nat} : CIOK E base f56_tbl := tbl_okM fun p q h => f56_ok p q h
theorem f56_call {a : List Int} {r : List Int} (h : f56 a = some r) (σ : Store) : f56_tbl 56 [.sl (List.map (cInt .u32) a)] σ = some (.own false 1 (List.map (cInt .u32) r), σ, none) :=
 tbl_eq (x := (a)) (fun x y e => by
  exact av_sl inj_int (List.cons.inj e).1) (by simp [h]) σ
def f60_l1 (r1 : List Int) (r2 : List Int) (i : Int) (out_1 : List Int) (carry : Int) (j : Int) : Option ((List Int) × Int) :=
 if (decide (j < (r2.length : Int))) = true then
  (rd out_1 (IntKind.i64.wrap (i + j)) >>= fun e8 =>
  rd r1 i >>= fun e9 =>
  rd r2 j >>= fun e10 =>
  some (IntKind.u64.wrap (carry + (IntKind.u64.wrap ((IntKind.u64.wrap e8) + (IntKind.u64.wrap ((IntKind.u64.wrap e9) * (IntKind.u64.wrap e10))))))) >>= fun x11 =>
  rd out_1 (IntKind.i64.wrap (i + j)) >>= fun e12 =>
  f60_l1 r1 r2 i (setL out_1 (IntKind.i64.wrap (i + j)) (IntKind.u32.wrap (x11.tmod 4294967296))) (quoI .u64 x11 4294967296) (IntKind.i64.wrap (j + 1)))
 else
  some (out_1, carry)
 partial_fixpoint
def f60_l0 (r1 : List Int) (r2 : List Int) (out : List Int) (i : Int) : Option ((List Int)) :=
 if (decide (i < (r1.length : Int))) = true then
  (f60_l1 r1 r2 i out 0 0 >>= fun o6 =>
  rd o6.1 (IntKind.i64.wrap (i + (r2.length : Int))) >>= fun e13 =>
  f60_l0 r1 r2 (setL o6.1 (IntKind.i64.wrap (i + (r2.length : Int))) (IntKind.u32.wrap o6.2)) (IntKind.i64.wrap (i + 1)))
 else
  some out
 partial_fixpoint
/-- sibyl/sibylref01.Times -/
def f60 (a : List Int) (b : List Int) : Option (List Int) :=
 f56 a >>= fun r1 =>
 f56 b >>= fun r2 =>
 mk 4 (IntKind.i64.wrap ((IntKind.i64.wrap ((r1.length : Int) + (r2.length : Int))) + 1)) 0 >>= fun m3 =>
 f60_l0 r1 r2 m3 0 >>= fun o4 =>
 f56 o4 >>= fun r14 =>
 some r14
noncomputable def f60_ci : CI := (CI.or 56 f56_tbl (fun _ _ _ => none))
theorem f60_ci_ok (base : Nat) : CIOK E base f60_ci := (or_ok f56_tbl_ok no_ok)
theorem f60_res : Try.f60.results = #[.tmp 4] := rfl
theorem f60_rt : Try.f60.resultTypes = #[36] := rfl
theorem f60_l1_ok {base : Nat} {c00 : Ctx} (r1 : List Int) (r2 : List Int) (i : Int) (hU : Under E base c00 nilStore) : ∀ (out_1 : List Int) (carry : Int) (j : Int) (o6 : (List Int) × Int), f60_l1 r1 r2 i out_1 carry j = some o6 →
  WpL E base c00 nilStore (lb Try.f60 1) ⟨jj 5 (.row 0 1 0 ((r1).length) :: .row 1 1 0 ((r2).length) :: .row 2 1 0 ((out_1).length) :: .v (.int .i64 i) :: .v (.int .u64 carry) :: .v (.int .i64 j) :: jj 64 []), St [some ⟨1, false, true, List.map (cInt .u32) r1⟩, some ⟨1, false, true, List.map (cInt .u32) r2⟩, some ⟨1, false, true, List.map (cInt .u32) out_1⟩], none, 0⟩ (fun ex s1 => ex = .exit 2 ∧ Wk base c00 nilStore s1 ⟨jj 5 (.row 0 1 0 ((r1).length) :: .row 1 1 0 ((r2).length) :: .row 2 1 0 ((o6.1).length) :: .v (.int .i64 i) :: .v (.int .u64 o6.2) :: jj 65 []), St [some ⟨1, false, true, List.map (cInt .u32) r1⟩, some ⟨1, false, true, List.map (cInt .u32) r2⟩, some ⟨1, false, true, List.map (cInt .u32) o6.1⟩], none, 0⟩) := by
 refine f60_l1.partial_correctness r1 r2 i _ ?_
 intro lp__ ih out_1 carry j o6 h
 refine WpL.stepE (lbI Try.f60.eq_1) ?_
 refine Wp.seq <| rs hU (f60_ci_ok _) rgI <| ?_
 refine Wp.cond hU (t := decide (j < (r2.length : Int))) rfl (fun hc7 => ?_) (fun hc7 => ?_)
 ·rw [if_t hc7] at h
  refine Wp.skip <| thenN <| Wp.seq <| Wp.block <| Wp.seq <| ?_
  obtain ⟨e8, he8, h⟩ := bind_some h
  obtain ⟨he8a, he8b, he8c⟩ := rd_some he8
  obtain ⟨e9, he9, h⟩ := bind_some h
  obtain ⟨he9a, he9b, he9c⟩ := rd_some he9
  obtain ⟨e10, he10, h⟩ := bind_some h
  obtain ⟨he10a, he10b, he10c⟩ := rd_some he10
  obtain ⟨x11, hx11, h⟩ := bind_some h
  replace hx11 := sj hx11
  have fx := i9 he8a he8b he8c he9a he9b he9c he10a he10b (i3 he10c hx11 hc7)
  refine Wp.regionT hU (f60_ci_ok _) rgIF (by kernel_rfl) <| thenN <| Wp.seq <| ?_
  obtain ⟨e12, he12, h⟩ := bind_some h
  obtain ⟨he12a, he12b, he12c⟩ := rd_some he12
  have fx := i4 he12a he12b he12c hc7
  refine rq hU (f60_ci_ok _) rgIF <| thenN <| ?_
  refine Wk.wp (s2 := ⟨jj 5 (.row 0 1 0 ((r1).length) :: .row 1 1 0 ((r2).length) :: .row 2 1 0 ((setL out_1 (IntKind.i64.wrap (i + j)) (IntKind.u32.wrap (x11.tmod 4294967296))).length) :: .v (.int .i64 i) :: .v (.int .u64 x11) :: .v (.int .i64 j) :: jj 64 []), St [some ⟨1, false, true, List.map (cInt .u32) r1⟩, some ⟨1, false, true, List.map (cInt .u32) r2⟩, some ⟨1, false, true, List.map (cInt .u32) (setL out_1 (IntKind.i64.wrap (i + j)) (IntKind.u32.wrap (x11.tmod 4294967296)))⟩], none, 0⟩) ?_ ?_
  ·exact Wk.weak hU [some 0, some 1, some 2] _ (by decide) wsI wvI
  have fx := hc7
  refine rq hU (f60_ci_ok _) rgIF <| blkN <| thenN <| rq hU (f60_ci_ok _) rgIF <| againN <| ?_
  refine Wk.wpL ?_ (ih (setL out_1 (IntKind.i64.wrap (i + j)) (IntKind.u32.wrap (x11.tmod 4294967296))) (quoI .u64 x11 4294967296) (IntKind.i64.wrap (j + 1)) _ h)
  exact Wk.weak hU [some 0, some 1, some 2] _ (by decide) wsI wvI
 ·rw [if_f hc7] at h
  refine Wp.exit <| thenE <| againE <| ?_
  obtain rfl := sj h
  refine ⟨rfl, ?_⟩
  exact Wk.weak hU [some 0, some 1, some 2] _ (by decide) wsI wvI
theorem f60_l0_ok {base : Nat} {c00 : Ctx} (r1 : List Int) (r2 : List Int) (hU : Under E base c00 nilStore) : ∀ (out : List Int) (i : Int) (o4 : (List Int)), f60_l0 r1 r2 out i = some o4 →
  WpL E base c00 nilStore (lb Try.f60 0) ⟨jj 5 (.row 0 1 0 ((r1).length) :: .row 1 1 0 ((r2).length) :: .row 2 1 0 ((out).length) :: .v (.int .i64 i) :: jj 66 []), St [some ⟨1, false, true, List.map (cInt .u32) r1⟩, some ⟨1, false, true, List.map (cInt .u32) r2⟩, some ⟨1, false, true, List.map (cInt .u32) out⟩], none, 0⟩ (fun ex s1 => ex = .exit 0 ∧ Wk base c00 nilStore s1 ⟨jj 7 (.row 0 1 0 ((o4).length) :: jj 67 []), St [some ⟨1, false, true, List.map (cInt .u32) o4⟩], none, 0⟩) := by
 refine f60_l0.partial_correctness r1 r2 _ ?_
 intro lp__ ih out i o4 h
 refine WpL.stepE (lbI Try.f60.eq_1) ?_
 refine Wp.seq <| rs hU (f60_ci_ok _) rgI <| ?_
 refine Wp.cond hU (t := decide (i < (r1.length : Int))) rfl (fun hc5 => ?_) (fun hc5 => ?_)
 ·rw [if_t hc5] at h
  refine Wp.skip <| thenN <| Wp.seq <| Wp.block <| Wp.seq <| ?_
  have fx := hc5
  refine rq hU (f60_ci_ok _) rgIF <| thenN <| Wp.seq <| rs hU (f60_ci_ok _) rgIF <| Wp.block <| ?_
  obtain ⟨o6, ho6, h⟩ := bind_some h
  refine Wp.loop <| ?_
  refine Tw.mono (Wk.wpL (s2 := ⟨jj 5 (.row 0 1 0 ((r1).length) :: .row 1 1 0 ((r2).length) :: .row 2 1 0 ((out).length) :: .v (.int .i64 i) :: .v (.int .u64 0) :: .v (.int .i64 0) :: jj 64 []), St [some ⟨1, false, true, List.map (cInt .u32) r1⟩, some ⟨1, false, true, List.map (cInt .u32) r2⟩, some ⟨1, false, true, List.map (cInt .u32) out⟩], none, 0⟩) ?_ (f60_l1_ok r1 r2 i hU out 0 0 o6 ho6)) (fun ex s1 hp => ?_)
  ·exact Wk.weak hU [some 0, some 1, some 2] _ (by decide) wsI wvI
  ·obtain ⟨rfl, hp⟩ := hp
   refine blkE <| thenN <| hp.wp <| ?_
   obtain ⟨e13, he13, h⟩ := bind_some h
   obtain ⟨he13a, he13b, he13c⟩ := rd_some he13
   have fx := i4 he13a he13b he13c hc5
   refine rq hU (f60_ci_ok _) rgIF <| blkN <| thenN <| ?_
   refine Wk.wp (s2 := ⟨jj 5 (.row 0 1 0 ((r1).length) :: .row 1 1 0 ((r2).length) :: .row 2 1 0 ((setL o6.1 (IntKind.i64.wrap (i + (r2.length : Int))) (IntKind.u32.wrap o6.2)).length) :: .v (.int .i64 i) :: jj 66 []), St [some ⟨1, false, true, List.map (cInt .u32) r1⟩, some ⟨1, false, true, List.map (cInt .u32) r2⟩, some ⟨1, false, true, List.map (cInt .u32) (setL o6.1 (IntKind.i64.wrap (i + (r2.length : Int))) (IntKind.u32.wrap o6.2))⟩], none, 0⟩) ?_ ?_
   ·exact Wk.weak hU [some 0, some 1, some 2] _ (by decide) wsI wvI
   have fx := hc5
   refine rq hU (f60_ci_ok _) rgIF <| againN <| ?_
   refine Wk.wpL ?_ (ih (setL o6.1 (IntKind.i64.wrap (i + (r2.length : Int))) (IntKind.u32.wrap o6.2)) (IntKind.i64.wrap (i + 1)) _ h)
   exact Wk.weak hU [some 0, some 1, some 2] _ (by decide) wsI wvI
 ·rw [if_f hc5] at h
  refine Wp.exit <| thenE <| againE <| ?_
  obtain rfl := sj h
  refine ⟨rfl, ?_⟩
  exact Wk.weak hU [some 2] _ (by decide) wsI wvI
theorem f60_ok (a : List Int) (b : List Int) (r : List Int) (h : f60 a b = some r) : PureOK E 60 [.sl (List.map (cInt .u32) a), .sl (List.map (cInt .u32) b)] (.own false 1 (List.map (cInt .u32) r)) := by
 unfold f60 at h
 refine pof (fn := Try.f60) (nt := 75) Try.func60 rfl rfl rfl rfl (fun _ => rfl) (fun base c00 hU => ?_)
 refine Wk.wp (s2 := ⟨.sl (List.map (cInt .u32) a) :: .sl (List.map (cInt .u32) b) :: jj 73 [], St [], none, 0⟩) ?_ ?_
 ·exact Wk.weak hU [] _ (by decide) .nil wvS
 refine rs hU (f60_ci_ok _) rgI <| Wp.seq <| ?_
 obtain ⟨r1, hr1, h⟩ := bind_some h
 have hr1c := fun σ => show f60_ci 56 _ σ = _ from f56_call hr1 σ
 obtain ⟨r2, hr2, h⟩ := bind_some h
 have hr2c := fun σ => show f60_ci 56 _ σ = _ from f56_call hr2 σ
 have fx := i2 hr1c hr2c
 refine rq hU (f60_ci_ok _) rgIF <| thenN <| Wp.seq <| ?_
 obtain ⟨m3, hm3, h⟩ := bind_some h
 obtain ⟨hm3a, hm3b, hm3c, hm3d⟩ := mk_some hm3
 have fx := i3 hm3a hm3b hm3c
 refine rq hU (f60_ci_ok _) rgIF <| thenN <| Wp.seq <| rs hU (f60_ci_ok _) rgI <| Wp.block <| ?_
 obtain ⟨o4, ho4, h⟩ := bind_some h
 refine Wp.loop <| ?_
 refine Tw.mono (Wk.wpL (s2 := ⟨jj 5 (.row 0 1 0 ((r1).length) :: .row 1 1 0 ((r2).length) :: .row 2 1 0 ((m3).length) :: .v (.int .i64 0) :: jj 66 []), St [some ⟨1, false, true, List.map (cInt .u32) r1⟩, some ⟨1, false, true, List.map (cInt .u32) r2⟩, some ⟨1, false, true, List.map (cInt .u32) m3⟩], none, 0⟩) ?_ (f60_l0_ok r1 r2 hU m3 0 o4 ho4)) (fun ex s1 hp => ?_)
 ·have fe := hm3d
  have fl := hm3d
  have fv := nofx
  exact Wk.weak hU [some 0, some 1, some 2] _ (by decide) wsIF wvIF
 ·obtain ⟨rfl, hp⟩ := hp
  refine blkE <| thenN <| hp.wp <| Wp.seq <| ?_
  obtain ⟨r14, hr14, h⟩ := bind_some h
  have hr14c := fun σ => show f60_ci 56 _ σ = _ from f56_call hr14 σ
  have fx := hr14c
  refine rq hU (f60_ci_ok _) rgIF <| thenN <| Wp.ret <| ?_
  obtain rfl := sj h
  refine ⟨.inl rfl, ?_⟩
  refine Rt.of <| ?_
  have fx := i3 f60_res f60_rt hm3d
  exact rtI
noncomputable def f60_tbl : CI := tbl 60 (fun p : (List Int) × (List Int) => [.sl (List.map (cInt .u32) p.1), .sl (List.map (cInt .u32) p.2)]) (fun p => (f60 p.1 p.2).map fun r => .own false 1 (List.map (cInt .u32) r))
theorem f60_tbl_ok {base : Nat} : CIOK E base f60_tbl := tbl_okM fun p q h => f60_ok p.1 p.2 q h
theorem f60_call {a : List Int} {b : List Int} {r : List Int} (h : f60 a b = some r) (σ : Store) : f60_tbl 60 [.sl (List.map (cInt .u32) a), .sl (List.map (cInt .u32) b)] σ = some (.own false 1 (List.map (cInt .u32) r), σ, none) :=
 tbl_eq (x := (a, b)) (fun x y e => by
  obtain ⟨x0, x1⟩ := x; obtain ⟨y0, y1⟩ := y
  have e0 := av_sl inj_int (List.cons.inj e).1
  have e1 := av_sl inj_int (List.cons.inj (List.cons.inj e).2).1
  subst e0 e1; rfl) (by simp [h]) σ
def f59_l0 (a : List Int) (b : List Int) (out : List Int) (carry : Int) (i : Int) : Option ((List Int) × Int) :=
 if (decide (i < (a.length : Int))) = true then
  ((rd a i >>= fun e3 =>
  some (IntKind.u64.wrap (carry + (IntKind.u64.wrap e3))) >>= fun x4 =>
  if (decide (i < (b.length : Int))) = true then
   (rd b i >>= fun e6 =>
   some (IntKind.u64.wrap (x4 + (IntKind.u64.wrap e6))) >>= fun x7 =>
   ap 4 out [IntKind.u32.wrap (x7.tmod 4294967296)] >>= fun a8 =>
   some (a8, (quoI .u64 x7 4294967296)))
  else
   ap 4 out [IntKind.u32.wrap (x4.tmod 4294967296)] >>= fun a9 =>
   some (a9, (quoI .u64 x4 4294967296)) : Option ((List Int) × Int)) >>= fun o2 =>
  f59_l0 a b o2.1 o2.2 (IntKind.i64.wrap (i + 1)))
 else
  if (decide (i < (b.length : Int))) = true then
   (rd b i >>= fun e3 =>
   some (IntKind.u64.wrap (carry + (IntKind.u64.wrap e3))) >>= fun x4 =>
   ap 4 out [IntKind.u32.wrap (x4.tmod 4294967296)] >>= fun a5 =>
   f59_l0 a b a5 (quoI .u64 x4 4294967296) (IntKind.i64.wrap (i + 1)))
  else
   some (out, carry)
 partial_fixpoint
/-- sibyl/sibylref01.Plus -/
def f59 (a : List Int) (b : List Int) : Option (List Int) :=
 f59_l0 a b [] 0 0 >>= fun o1 =>
 ap 4 o1.1 [IntKind.u32.wrap o1.2] >>= fun a6 =>
 f56 a6 >>= fun r7 =>
 some r7
noncomputable def f59_ci : CI := (CI.or 56 f56_tbl (fun _ _ _ => none))
theorem f59_ci_ok (base : Nat) : CIOK E base f59_ci := (or_ok f56_tbl_ok no_ok)
theorem f59_res : Try.f59.results = #[.tmp 4] := rfl
theorem f59_rt : Try.f59.resultTypes = #[36] := rfl
theorem f59_l0_ok {base : Nat} {c00 : Ctx} (a : List Int) (b : List Int) (hU : Under E base c00 nilStore) : ∀ (out : List Int) (carry : Int) (i : Int) (o1 : (List Int) × Int), f59_l0 a b out carry i = some o1 →
  WpL E base c00 nilStore (lb Try.f59 0) ⟨.sl (List.map (cInt .u32) a) :: .sl (List.map (cInt .u32) b) :: jj 3 (.row 0 1 0 ((out).length) :: .v (.int .u64 carry) :: .v (.int .i64 i) :: jj 49 []), St [some ⟨1, false, true, List.map (cInt .u32) out⟩], none, 0⟩ (fun ex s1 => ex = .exit 0 ∧ Wk base c00 nilStore s1 ⟨jj 5 (.row 0 1 0 ((o1.1).length) :: .v (.int .u64 o1.2) :: jj 50 []), St [some ⟨1, false, true, List.map (cInt .u32) o1.1⟩], none, 0⟩) := by
 refine f59_l0.partial_correctness a b _ ?_
 intro lp__ ih out carry i o1 h
 refine WpL.stepE (lbI Try.f59.eq_1) ?_
 refine Wp.seq <| Wp.seq <| ?_
 rcases Bool.eq_false_or_eq_true (decide (i < (a.length : Int))) with hg20 | hg20
 ·rw [if_t hg20] at h
  have fx := hg20
  refine rq hU (f59_ci_ok _) rgIF <| thenN <| ?_
  refine Wp.cond hU (t := true) rfl (fun _ => ?_) (fun hc => by cases hc)
  refine Wp.skip <| thenN <| ?_
  obtain ⟨o2, ho2, h⟩ := bind_some h
  refine Wp.seq1 (JP := (fun ex s1 => ex = .nrm ∧ Wk base c00 nilStore s1 ⟨.sl (List.map (cInt .u32) a) :: .sl (List.map (cInt .u32) b) :: jj 3 (.row 0 1 0 ((o2.1).length) :: .v (.int .u64 o2.2) :: .v (.int .i64 i) :: jj 49 []), St [some ⟨1, false, true, List.map (cInt .u32) o2.1⟩], none, 0⟩)) ?_ (fun ex s1 hp => ?_)
  ·replace h := ho2
   refine Wp.block <| Wp.seq <| rs hU (f59_ci_ok _) rgIF <| ?_
   refine Wp.cond hU (t := true) rfl (fun _ => ?_) (fun hc => by cases hc)
   obtain ⟨e3, he3, h⟩ := bind_some h
   obtain ⟨he3a, he3b, he3c⟩ := rd_some he3
   obtain ⟨x4, hx4, h⟩ := bind_some h
   replace hx4 := sj hx4
   have fx := i5 he3a he3b he3c hx4 hg20
   refine rq hU (f59_ci_ok _) rgIF <| thenN <| Wp.seq <| Wp.seq <| ?_
   have fx := hg20
   refine rq hU (f59_ci_ok _) rgIF <| thenN <| ?_
   refine Wp.cond hU (t := decide (i < (b.length : Int))) rfl (fun hc5 => ?_) (fun hc5 => ?_)
   ·rw [if_t hc5] at h
    obtain ⟨e6, he6, h⟩ := bind_some h
    obtain ⟨he6a, he6b, he6c⟩ := rd_some he6
    obtain ⟨x7, hx7, h⟩ := bind_some h
    replace hx7 := sj hx7
    have fx := i6 he6a he6b he6c hx7 hg20 hc5
    refine rq hU (f59_ci_ok _) rgIF <| thenN <| Wp.seq <| ?_
    obtain ⟨a8, ha8, h⟩ := bind_some h
    obtain ⟨ha8a, ha8b⟩ := ap_some ha8
    try simp only [List.length_cons, List.length_nil, Nat.zero_add, Nat.add_zero, Nat.reduceAdd] at ha8a
    have fx := i3 ha8a hg20 hc5
    refine rq hU (f59_ci_ok _) rgIF <| thenN <| ?_
    refine Wk.wp (s2 := ⟨.sl (List.map (cInt .u32) a) :: .sl (List.map (cInt .u32) b) :: jj 3 (.row 0 1 0 ((a8).length) :: .v (.int .u64 x7) :: .v (.int .i64 i) :: jj 49 []), St [some ⟨1, false, true, List.map (cInt .u32) a8⟩], none, 0⟩) ?_ ?_
    ·have fe := ha8b
     have fl := ha8b
     have fv := nofx
     exact Wk.weak hU [some 2] _ (by decide) wsIF wvIF
    have fx := i2 hg20 hc5
    refine rq hU (f59_ci_ok _) rgIF <| blkN <| ?_
    obtain rfl := sj h
    refine ⟨rfl, ?_⟩
    have fe := ha8b
    have fl := ha8b
    have fv := nofx
    exact Wk.weak hU [some 0] _ (by decide) wsIF wvIF
   ·rw [if_f hc5] at h
    refine Wp.skip <| thenN <| Wp.seq <| ?_
    obtain ⟨a9, ha9, h⟩ := bind_some h
    obtain ⟨ha9a, ha9b⟩ := ap_some ha9
    try simp only [List.length_cons, List.length_nil, Nat.zero_add, Nat.add_zero, Nat.reduceAdd] at ha9a
    have fx := i3 ha9a hg20 hc5
    refine rq hU (f59_ci_ok _) rgIF <| thenN <| ?_
    refine Wk.wp (s2 := ⟨.sl (List.map (cInt .u32) a) :: .sl (List.map (cInt .u32) b) :: jj 3 (.row 0 1 0 ((a9).length) :: .v (.int .u64 x4) :: .v (.int .i64 i) :: jj 49 []), St [some ⟨1, false, true, List.map (cInt .u32) a9⟩], none, 0⟩) ?_ ?_
    ·have fe := ha9b
     have fl := ha9b
     have fv := nofx
     exact Wk.weak hU [some 2] _ (by decide) wsIF wvIF
    have fx := i2 hg20 hc5
    refine rq hU (f59_ci_ok _) rgIF <| blkN <| ?_
    obtain rfl := sj h
    refine ⟨rfl, ?_⟩
    have fe := ha9b
    have fl := ha9b
    have fv := nofx
    exact Wk.weak hU [some 0] _ (by decide) wsIF wvIF
  ·obtain ⟨rfl, hp⟩ := hp
   refine thenN (hp.wp ?_)
   refine rq hU (f59_ci_ok _) rgIF <| againN <| ?_
   refine Wk.wpL ?_ (ih o2.1 o2.2 (IntKind.i64.wrap (i + 1)) _ h)
   exact Wk.weak hU [some 0] _ (by decide) wsI wvI
 ·rw [if_f hg20] at h
  have fx := hg20
  refine rq hU (f59_ci_ok _) rgIF <| thenN <| ?_
  refine Wp.cond hU (t := decide (i < (b.length : Int))) rfl (fun hc2 => ?_) (fun hc2 => ?_)
  ·rw [if_t hc2] at h
   refine Wp.skip <| thenN <| Wp.seq <| Wp.block <| Wp.seq <| Wp.seq <| ?_
   have fx := i2 hg20 hc2
   refine rq hU (f59_ci_ok _) rgIF <| thenN <| ?_
   refine Wp.cond hU (t := false) rfl (fun hc => by cases hc) (fun _ => ?_)
   refine Wp.skip <| thenN <| Wp.seq <| rs hU (f59_ci_ok _) rgIF <| ?_
   refine Wp.cond hU (t := true) rfl (fun _ => ?_) (fun hc => by cases hc)
   obtain ⟨e3, he3, h⟩ := bind_some h
   obtain ⟨he3a, he3b, he3c⟩ := rd_some he3
   obtain ⟨x4, hx4, h⟩ := bind_some h
   replace hx4 := sj hx4
   have fx := i6 he3a he3b he3c hx4 hg20 hc2
   refine rq hU (f59_ci_ok _) rgIF <| thenN <| Wp.seq <| ?_
   obtain ⟨a5, ha5, h⟩ := bind_some h
   obtain ⟨ha5a, ha5b⟩ := ap_some ha5
   try simp only [List.length_cons, List.length_nil, Nat.zero_add, Nat.add_zero, Nat.reduceAdd] at ha5a
   have fx := i3 ha5a hg20 hc2
   refine rq hU (f59_ci_ok _) rgIF <| thenN <| ?_
   refine Wk.wp (s2 := ⟨.sl (List.map (cInt .u32) a) :: .sl (List.map (cInt .u32) b) :: jj 3 (.row 0 1 0 ((a5).length) :: .v (.int .u64 x4) :: .v (.int .i64 i) :: jj 49 []), St [some ⟨1, false, true, List.map (cInt .u32) a5⟩], none, 0⟩) ?_ ?_
   ·have fe := ha5b
    have fl := ha5b
    have fv := nofx
    exact Wk.weak hU [some 2] _ (by decide) wsIF wvIF
   have fx := i2 hg20 hc2
   refine rq hU (f59_ci_ok _) rgIF <| blkN <| thenN <| rq hU (f59_ci_ok _) rgIF <| againN <| ?_
   refine Wk.wpL ?_ (ih a5 (quoI .u64 x4 4294967296) (IntKind.i64.wrap (i + 1)) _ h)
   have fe := ha5b
   have fl := ha5b
   have fv := nofx
   exact Wk.weak hU [some 0] _ (by decide) wsIF wvIF
  ·rw [if_f hc2] at h
   refine Wp.exit <| thenE <| againE <| ?_
   obtain rfl := sj h
   refine ⟨rfl, ?_⟩
   exact Wk.weak hU [some 0] _ (by decide) wsI wvI
theorem f59_ok (a : List Int) (b : List Int) (r : List Int) (h : f59 a b = some r) : PureOK E 59 [.sl (List.map (cInt .u32) a), .sl (List.map (cInt .u32) b)] (.own false 1 (List.map (cInt .u32) r)) := by
 unfold f59 at h
 refine pof (fn := Try.f59) (nt := 57) Try.func59 rfl rfl rfl rfl (fun _ => rfl) (fun base c00 hU => ?_)
 refine Wk.wp (s2 := ⟨.sl (List.map (cInt .u32) a) :: .sl (List.map (cInt .u32) b) :: jj 55 [], St [], none, 0⟩) ?_ ?_
 ·exact Wk.weak hU [] _ (by decide) .nil wvS
 refine rs hU (f59_ci_ok _) rgI <| rs hU (f59_ci_ok _) rgI <| rs hU (f59_ci_ok _) rgI <| Wp.seq <| rs hU (f59_ci_ok _) rgI <| Wp.block <| ?_
 obtain ⟨o1, ho1, h⟩ := bind_some h
 refine Wp.loop <| ?_
 refine Tw.mono (Wk.wpL (s2 := ⟨.sl (List.map (cInt .u32) a) :: .sl (List.map (cInt .u32) b) :: jj 3 (.row 0 1 0 (0) :: .v (.int .u64 0) :: .v (.int .i64 0) :: jj 49 []), St [some ⟨1, false, true, List.map (cInt .u32) []⟩], none, 0⟩) ?_ (f59_l0_ok a b hU [] 0 0 o1 ho1)) (fun ex s1 hp => ?_)
 ·exact Wk.weak hU [none] _ (by decide) wsI wvI
 ·obtain ⟨rfl, hp⟩ := hp
  refine blkE <| thenN <| hp.wp <| Wp.seq <| ?_
  obtain ⟨a6, ha6, h⟩ := bind_some h
  obtain ⟨ha6a, ha6b⟩ := ap_some ha6
  try simp only [List.length_cons, List.length_nil, Nat.zero_add, Nat.add_zero, Nat.reduceAdd] at ha6a
  have fx := ha6a
  refine rq hU (f59_ci_ok _) rgIF <| thenN <| ?_
  refine Wk.wp (s2 := ⟨jj 5 (.row 0 1 0 ((a6).length) :: jj 51 []), St [some ⟨1, false, true, List.map (cInt .u32) a6⟩], none, 0⟩) ?_ ?_
  ·have fe := ha6b
   have fl := ha6b
   have fv := nofx
   exact Wk.weak hU [some 2] _ (by decide) wsIF wvIF
  refine Wp.seq <| ?_
  obtain ⟨r7, hr7, h⟩ := bind_some h
  have hr7c := fun σ => show f59_ci 56 _ σ = _ from f56_call hr7 σ
  have fx := hr7c
  refine rq hU (f59_ci_ok _) rgIF <| thenN <| Wp.ret <| ?_
  obtain rfl := sj h
  refine ⟨.inl rfl, ?_⟩
  refine Rt.of <| ?_
  have fx := i3 f59_res f59_rt ha6b
  exact rtI
noncomputable def f59_tbl : CI := tbl 59 (fun p : (List Int) × (List Int) => [.sl (List.map (cInt .u32) p.1), .sl (List.map (cInt .u32) p.2)]) (fun p => (f59 p.1 p.2).map fun r => .own false 1 (List.map (cInt .u32) r))
theorem f59_tbl_ok {base : Nat} : CIOK E base f59_tbl := tbl_okM fun p q h => f59_ok p.1 p.2 q h
theorem f59_call {a : List Int} {b : List Int} {r : List Int} (h : f59 a b = some r) (σ : Store) : f59_tbl 59 [.sl (List.map (cInt .u32) a), .sl (List.map (cInt .u32) b)] σ = some (.own false 1 (List.map (cInt .u32) r), σ, none) :=
 tbl_eq (x := (a, b)) (fun x y e => by
  obtain ⟨x0, x1⟩ := x; obtain ⟨y0, y1⟩ := y
  have e0 := av_sl inj_int (List.cons.inj e).1
  have e1 := av_sl inj_int (List.cons.inj (List.cons.inj e).2).1
  subst e0 e1; rfl) (by simp [h]) σ
def f48_l0 (s : Str) (out : List Int) (i : Int) : Option ((List Int)) :=
 if (decide (i < (s.length : Int))) = true then
  (f60 out [10] >>= fun r3 =>
  bt s i >>= fun b4 =>
  f59 r3 [IntKind.u32.wrap (IntKind.u8.wrap (b4 - 48))] >>= fun r5 =>
  f48_l0 s r5 (IntKind.i64.wrap (i + 1)))
 else
  some out
 partial_fixpoint
/-- sibyl/sibylref02.natural -/
def f48 (s : Str) : Option (List Int) :=
 f48_l0 s [] 0 >>= fun o1 =>
 some o1
noncomputable def f48_ci : CI := (CI.or 60 f60_tbl (CI.or 59 f59_tbl (fun _ _ _ => none)))
theorem f48_ci_ok (base : Nat) : CIOK E base f48_ci := (or_ok f60_tbl_ok (or_ok f59_tbl_ok no_ok))
theorem f48_res : Try.f48.results = #[.tmp 2] := rfl
theorem f48_rt : Try.f48.resultTypes = #[36] := rfl
theorem f48_l0_ok {base : Nat} {c00 : Ctx} (s : Str) (hU : Under E base c00 nilStore) : ∀ (out : List Int) (i : Int) (o1 : (List Int)), f48_l0 s out i = some o1 →
  WpL E base c00 nilStore (lb Try.f48 0) ⟨.v (.string (mkS s)) :: jj 2 (.row 0 1 0 ((out).length) :: .v (.int .i64 i) :: jj 17 []), St [some ⟨1, false, true, List.map (cInt .u32) out⟩], none, 0⟩ (fun ex s1 => ex = .exit 0 ∧ Wk base c00 nilStore s1 ⟨jj 3 (.row 0 1 0 ((o1).length) :: jj 18 []), St [some ⟨1, false, true, List.map (cInt .u32) o1⟩], none, 0⟩) := by
 refine f48_l0.partial_correctness s _ ?_
 intro lp__ ih out i o1 h
 refine WpL.stepE (lbI Try.f48.eq_1) ?_
 refine Wp.seq <| rs hU (f48_ci_ok _) rgI <| ?_
 refine Wp.cond hU (t := decide (i < (s.length : Int))) rfl (fun hc2 => ?_) (fun hc2 => ?_)
 ·rw [if_t hc2] at h
  refine Wp.skip <| thenN <| Wp.seq <| Wp.block <| ?_
  obtain ⟨r3, hr3, h⟩ := bind_some h
  have hr3c := fun σ => show f48_ci 60 _ σ = _ from f60_call hr3 σ
  try simp only [List.map_cons, List.map_nil, cInt_eq, cBool_eq, cStr_eq, cSl_eq, tys] at hr3c
  obtain ⟨b4, hb4, h⟩ := bind_some h
  obtain ⟨r5, hr5, h⟩ := bind_some h
  have hr5c := fun σ => show f48_ci 59 _ σ = _ from f59_call hr5 σ
  try simp only [List.map_cons, List.map_nil, cInt_eq, cBool_eq, cStr_eq, cSl_eq, tys] at hr5c
  have fx := i4 hr3c hb4 hr5c hc2
  refine Wp.regionT hU (f48_ci_ok _) rgIF (by kernel_rfl) <| blkN <| thenN <| ?_
  have fx := hc2
  refine rq hU (f48_ci_ok _) rgIF <| againN <| ?_
  refine Wk.wpL ?_ (ih r5 (IntKind.i64.wrap (i + 1)) _ h)
  exact Wk.weak hU [some 4] _ (by decide) wsI wvI
 ·rw [if_f hc2] at h
  refine Wp.exit <| thenE <| againE <| ?_
  obtain rfl := sj h
  refine ⟨rfl, ?_⟩
  exact Wk.weak hU [some 0] _ (by decide) wsI wvI
theorem f48_ok (s : Str) (r : List Int) (h : f48 s = some r) : PureOK E 48 [.v (.string (mkS s))] (.own false 1 (List.map (cInt .u32) r)) := by
 unfold f48 at h
 refine pof (fn := Try.f48) (nt := 22) Try.func48 rfl rfl rfl rfl (fun _ => rfl) (fun base c00 hU => ?_)
 refine Wk.wp (s2 := ⟨.v (.string (mkS s)) :: jj 21 [], St [], none, 0⟩) ?_ ?_
 ·exact Wk.weak hU [] _ (by decide) .nil wvS
 refine rs hU (f48_ci_ok _) rgI <| rs hU (f48_ci_ok _) rgI <| Wp.seq <| rs hU (f48_ci_ok _) rgI <| Wp.block <| ?_
 obtain ⟨o1, ho1, h⟩ := bind_some h
 refine Wp.loop <| ?_
 refine Tw.mono (Wk.wpL (s2 := ⟨.v (.string (mkS s)) :: jj 2 (.row 0 1 0 (0) :: .v (.int .i64 0) :: jj 17 []), St [some ⟨1, false, true, List.map (cInt .u32) []⟩], none, 0⟩) ?_ (f48_l0_ok s hU [] 0 o1 ho1)) (fun ex s1 hp => ?_)
 ·exact Wk.weak hU [none] _ (by decide) wsI wvI
 ·obtain ⟨rfl, hp⟩ := hp
  refine blkE <| thenN <| hp.wp <| rs hU (f48_ci_ok _) rgI <| Wp.ret <| ?_
  obtain rfl := sj h
  refine ⟨.inl rfl, ?_⟩
  refine Rt.of <| ?_
  have fx := i2 f48_res f48_rt
  exact rtI
noncomputable def f48_tbl : CI := tbl 48 (fun p : Str => [.v (.string (mkS p))]) (fun p => (f48 p).map fun r => .own false 1 (List.map (cInt .u32) r))
theorem f48_tbl_ok {base : Nat} : CIOK E base f48_tbl := tbl_okM fun p q h => f48_ok p q h
theorem f48_call {s : Str} {r : List Int} (h : f48 s = some r) (σ : Store) : f48_tbl 48 [.v (.string (mkS s))] σ = some (.own false 1 (List.map (cInt .u32) r), σ, none) :=
 tbl_eq (x := (s)) (fun x y e => by
  exact av_str (List.cons.inj e).1) (by simp [h]) σ
/-- sibyl/sibylref01.Bit -/
def f66 (a : List Int) (i : Int) : Option (Bool) :=
 if (decide (i < 0)) = true then
  (some false)
 else
  if (decide ((quoI .i64 i 32) ≥ (a.length : Int))) = true then
   (some false)
  else
   rd a (quoI .i64 i 32) >>= fun e2 =>
   nn (IntKind.u64.wrap (i.tmod 32)) >>= fun u3 =>
   some (((shrI .u32 e2 (IntKind.u64.wrap (i.tmod 32))).tmod 2) == 1)
theorem f66_res : Try.f66.results = #[.tmp 4] := rfl
theorem f66_rt : Try.f66.resultTypes = #[4] := rfl
theorem f66_ok (a : List Int) (i : Int) (r : Bool) (h : f66 a i = some r) : PureOK E 66 [.sl (List.map (cInt .u32) a), .v (.int .i64 i)] (.v (.bool r)) := by
 unfold f66 at h
 refine pof (fn := Try.f66) (nt := 25) Try.func66 rfl rfl rfl rfl (fun _ => rfl) (fun base c00 hU => ?_)
 refine Wk.wp (s2 := ⟨.sl (List.map (cInt .u32) a) :: .v (.int .i64 i) :: jj 23 [], St [], none, 0⟩) ?_ ?_
 ·exact Wk.weak hU [] _ (by decide) .nil wvS
 refine rs hU no_ok rgI <| Wp.seq <| Wp.seq <| ?_
 rcases Bool.eq_false_or_eq_true (decide (i < 0)) with hg8 | hg8
 ·rw [if_t hg8] at h
  have fx := hg8
  refine rq hU no_ok rgIF <| thenN <| ?_
  refine Wp.cond hU (t := true) rfl (fun _ => ?_) (fun hc => by cases hc)
  refine rs hU no_ok rgIF <| Wp.ret <| thenR <| ?_
  obtain rfl := sj h
  refine ⟨.inl rfl, ?_⟩
  refine Rt.of <| ?_
  have fx := i2 f66_res f66_rt
  exact rtI
 ·rw [if_f hg8] at h
  have fx := hg8
  refine rq hU no_ok rgIF <| thenN <| ?_
  refine Wp.cond hU (t := decide ((quoI .i64 i 32) ≥ (a.length : Int))) rfl (fun hc1 => ?_) (fun hc1 => ?_)
  ·rw [if_t hc1] at h
   refine Wp.seq <| ?_
   have fx := i2 hg8 hc1
   refine rq hU no_ok rgIF <| thenN <| Wp.ret <| thenR <| ?_
   obtain rfl := sj h
   refine ⟨.inl rfl, ?_⟩
   refine Rt.of <| ?_
   have fx := i2 f66_res f66_rt
   exact rtI
  ·rw [if_f hc1] at h
   refine Wp.skip <| thenN <| Wp.seq <| ?_
   obtain ⟨e2, he2, h⟩ := bind_some h
   obtain ⟨he2a, he2b, he2c⟩ := rd_some he2
   obtain ⟨u3, hu3, h⟩ := bind_some h
   have hu3a := nn_some hu3
   have fx := i6 he2a he2b he2c hu3a hg8 hc1
   refine rq hU no_ok rgIF <| thenN <| Wp.ret <| ?_
   obtain rfl := sj h
   refine ⟨.inl rfl, ?_⟩
   refine Rt.of <| ?_
   have fx := i2 f66_res f66_rt
   exact rtI
noncomputable def f66_tbl : CI := tbl 66 (fun p : (List Int) × Int => [.sl (List.map (cInt .u32) p.1), .v (.int .i64 p.2)]) (fun p => (f66 p.1 p.2).map fun r => .v (.bool r))
theorem f66_tbl_ok {base : Nat} : CIOK E base f66_tbl := tbl_okM fun p q h => f66_ok p.1 p.2 q h
theorem f66_call {a : List Int} {i : Int} {r : Bool} (h : f66 a i = some r) (σ : Store) : f66_tbl 66 [.sl (List.map (cInt .u32) a), .v (.int .i64 i)] σ = some (.v (.bool r), σ, none) :=
 tbl_eq (x := (a, i)) (fun x y e => by
  obtain ⟨x0, x1⟩ := x; obtain ⟨y0, y1⟩ := y
  have e0 := av_sl inj_int (List.cons.inj e).1
  have e1 := av_int (List.cons.inj (List.cons.inj e).2).1
  subst e0 e1; rfl) (by simp [h]) σ
def f67_l0 (a : List Int) (n : Int) (out : List Int) (i : Int) : Option ((List Int)) :=
 if (decide (i < (a.length : Int))) = true then
  ((rd a i >>= fun e4 =>
  if (decide ((IntKind.i64.wrap (i + 1)) < (a.length : Int))) = true then
   (rd a (IntKind.i64.wrap (i + 1)) >>= fun e6 =>
   some (IntKind.u64.wrap ((IntKind.u64.wrap e4) + (shlI .u64 (IntKind.u64.wrap e6) 32))) >>= fun x7 =>
   nn (IntKind.u64.wrap (n.tmod 32)) >>= fun u8 =>
   ap 4 out [IntKind.u32.wrap ((shrI .u64 x7 (IntKind.u64.wrap (n.tmod 32))).tmod 4294967296)] >>= fun a9 =>
   some a9)
  else
   nn (IntKind.u64.wrap (n.tmod 32)) >>= fun u10 =>
   ap 4 out [IntKind.u32.wrap ((shrI .u64 (IntKind.u64.wrap e4) (IntKind.u64.wrap (n.tmod 32))).tmod 4294967296)] >>= fun a11 =>
   some a11 : Option ((List Int))) >>= fun o3 =>
  f67_l0 a n o3 (IntKind.i64.wrap (i + 1)))
 else
  some out
 partial_fixpoint
/-- sibyl/sibylref01.Shr -/
def f67 (a : List Int) (n : Int) : Option (List Int) :=
 f67_l0 a n [] (quoI .i64 n 32) >>= fun o1 =>
 f56 o1 >>= fun r12 =>
 some r12
noncomputable def f67_ci : CI := (CI.or 56 f56_tbl (fun _ _ _ => none))
theorem f67_ci_ok (base : Nat) : CIOK E base f67_ci := (or_ok f56_tbl_ok no_ok)
theorem f67_res : Try.f67.results = #[.tmp 4] := rfl
theorem f67_rt : Try.f67.resultTypes = #[36] := rfl
theorem f67_l0_ok {base : Nat} {c00 : Ctx} (a : List Int) (n : Int) (hU : Under E base c00 nilStore) : ∀ (out : List Int) (i : Int) (o1 : (List Int)), f67_l0 a n out i = some o1 →
  WpL E base c00 nilStore (lb Try.f67 0) ⟨.sl (List.map (cInt .u32) a) :: .v (.int .i64 n) :: jj 3 (.row 0 1 0 ((out).length) :: .v (.int .i64 i) :: jj 40 []), St [some ⟨1, false, true, List.map (cInt .u32) out⟩], none, 0⟩ (fun ex s1 => ex = .exit 0 ∧ Wk base c00 nilStore s1 ⟨jj 5 (.row 0 1 0 ((o1).length) :: jj 41 []), St [some ⟨1, false, true, List.map (cInt .u32) o1⟩], none, 0⟩) := by
 refine f67_l0.partial_correctness a n _ ?_
 intro lp__ ih out i o1 h
 refine WpL.stepE (lbI Try.f67.eq_1) ?_
 refine Wp.seq <| rs hU (f67_ci_ok _) rgI <| ?_
 refine Wp.cond hU (t := decide (i < (a.length : Int))) rfl (fun hc2 => ?_) (fun hc2 => ?_)
 ·rw [if_t hc2] at h
  refine Wp.skip <| thenN <| ?_
  obtain ⟨o3, ho3, h⟩ := bind_some h
  refine Wp.seq1 (JP := (fun ex s1 => ex = .nrm ∧ Wk base c00 nilStore s1 ⟨.sl (List.map (cInt .u32) a) :: .v (.int .i64 n) :: jj 3 (.row 0 1 0 ((o3).length) :: .v (.int .i64 i) :: jj 40 []), St [some ⟨1, false, true, List.map (cInt .u32) o3⟩], none, 0⟩)) ?_ (fun ex s1 hp => ?_)
  ·replace h := ho3
   refine Wp.block <| Wp.seq <| ?_
   obtain ⟨e4, he4, h⟩ := bind_some h
   obtain ⟨he4a, he4b, he4c⟩ := rd_some he4
   have fx := i4 he4a he4b he4c hc2
   refine rq hU (f67_ci_ok _) rgIF <| thenN <| Wp.seq <| Wp.seq <| ?_
   have fx := hc2
   refine rq hU (f67_ci_ok _) rgIF <| thenN <| ?_
   refine Wp.cond hU (t := decide ((IntKind.i64.wrap (i + 1)) < (a.length : Int))) rfl (fun hc5 => ?_) (fun hc5 => ?_)
   ·rw [if_t hc5] at h
    obtain ⟨e6, he6, h⟩ := bind_some h
    obtain ⟨he6a, he6b, he6c⟩ := rd_some he6
    obtain ⟨x7, hx7, h⟩ := bind_some h
    replace hx7 := sj hx7
    have fx := i6 he6a he6b he6c hx7 hc2 hc5
    refine rq hU (f67_ci_ok _) rgIF <| thenN <| ?_
    obtain ⟨u8, hu8, h⟩ := bind_some h
    have hu8a := nn_some hu8
    obtain ⟨a9, ha9, h⟩ := bind_some h
    obtain ⟨ha9a, ha9b⟩ := ap_some ha9
    try simp only [List.length_cons, List.length_nil, Nat.zero_add, Nat.add_zero, Nat.reduceAdd] at ha9a
    have fx := i4 hu8a ha9a hc2 hc5
    refine rq hU (f67_ci_ok _) rgIF <| blkN <| ?_
    obtain rfl := sj h
    refine ⟨rfl, ?_⟩
    have fe := ha9b
    have fl := ha9b
    have fv := nofx
    exact Wk.weak hU [some 2] _ (by decide) wsIF wvIF
   ·rw [if_f hc5] at h
    refine Wp.skip <| thenN <| ?_
    obtain ⟨u10, hu10, h⟩ := bind_some h
    have hu10a := nn_some hu10
    obtain ⟨a11, ha11, h⟩ := bind_some h
    obtain ⟨ha11a, ha11b⟩ := ap_some ha11
    try simp only [List.length_cons, List.length_nil, Nat.zero_add, Nat.add_zero, Nat.reduceAdd] at ha11a
    have fx := i4 hu10a ha11a hc2 hc5
    refine rq hU (f67_ci_ok _) rgIF <| blkN <| ?_
    obtain rfl := sj h
    refine ⟨rfl, ?_⟩
    have fe := ha11b
    have fl := ha11b
    have fv := nofx
    exact Wk.weak hU [some 2] _ (by decide) wsIF wvIF
  ·obtain ⟨rfl, hp⟩ := hp
   refine thenN (hp.wp ?_)
   have fx := hc2
   refine rq hU (f67_ci_ok _) rgIF <| againN <| ?_
   refine Wk.wpL ?_ (ih o3 (IntKind.i64.wrap (i + 1)) _ h)
   exact Wk.weak hU [some 0] _ (by decide) wsI wvI
 ·rw [if_f hc2] at h
  refine Wp.exit <| thenE <| againE <| ?_
  obtain rfl := sj h
  refine ⟨rfl, ?_⟩
  exact Wk.weak hU [some 0] _ (by decide) wsI wvI
theorem f67_ok (a : List Int) (n : Int) (r : List Int) (h : f67 a n = some r) : PureOK E 67 [.sl (List.map (cInt .u32) a), .v (.int .i64 n)] (.own false 1 (List.map (cInt .u32) r)) := by
 unfold f67 at h
 refine pof (fn := Try.f67) (nt := 47) Try.func67 rfl rfl rfl rfl (fun _ => rfl) (fun base c00 hU => ?_)
 refine Wk.wp (s2 := ⟨.sl (List.map (cInt .u32) a) :: .v (.int .i64 n) :: jj 45 [], St [], none, 0⟩) ?_ ?_
 ·exact Wk.weak hU [] _ (by decide) .nil wvS
 refine rs hU (f67_ci_ok _) rgI <| rs hU (f67_ci_ok _) rgI <| Wp.seq <| rs hU (f67_ci_ok _) rgI <| Wp.block <| ?_
 obtain ⟨o1, ho1, h⟩ := bind_some h
 refine Wp.loop <| ?_
 refine Tw.mono (Wk.wpL (s2 := ⟨.sl (List.map (cInt .u32) a) :: .v (.int .i64 n) :: jj 3 (.row 0 1 0 (0) :: .v (.int .i64 (quoI .i64 n 32)) :: jj 40 []), St [some ⟨1, false, true, List.map (cInt .u32) []⟩], none, 0⟩) ?_ (f67_l0_ok a n hU [] (quoI .i64 n 32) o1 ho1)) (fun ex s1 hp => ?_)
 ·exact Wk.weak hU [none] _ (by decide) wsI wvI
 ·obtain ⟨rfl, hp⟩ := hp
  refine blkE <| thenN <| hp.wp <| Wp.seq <| ?_
  obtain ⟨r12, hr12, h⟩ := bind_some h
  have hr12c := fun σ => show f67_ci 56 _ σ = _ from f56_call hr12 σ
  have fx := hr12c
  refine rq hU (f67_ci_ok _) rgIF <| thenN <| Wp.ret <| ?_
  obtain rfl := sj h
  refine ⟨.inl rfl, ?_⟩
  refine Rt.of <| ?_
  have fx := i2 f67_res f67_rt
  exact rtI
noncomputable def f67_tbl : CI := tbl 67 (fun p : (List Int) × Int => [.sl (List.map (cInt .u32) p.1), .v (.int .i64 p.2)]) (fun p => (f67 p.1 p.2).map fun r => .own false 1 (List.map (cInt .u32) r))
theorem f67_tbl_ok {base : Nat} : CIOK E base f67_tbl := tbl_okM fun p q h => f67_ok p.1 p.2 q h
theorem f67_call {a : List Int} {n : Int} {r : List Int} (h : f67 a n = some r) (σ : Store) : f67_tbl 67 [.sl (List.map (cInt .u32) a), .v (.int .i64 n)] σ = some (.own false 1 (List.map (cInt .u32) r), σ, none) :=
 tbl_eq (x := (a, n)) (fun x y e => by
  obtain ⟨x0, x1⟩ := x; obtain ⟨y0, y1⟩ := y
  have e0 := av_sl inj_int (List.cons.inj e).1
  have e1 := av_int (List.cons.inj (List.cons.inj e).2).1
  subst e0 e1; rfl) (by simp [h]) σ
def f68_l0 (r1 : List Int) (r2 : List Int) (i : Int) : Option (Ou Int Unit) :=
 if (decide (i ≥ 0)) = true then
  (rd r1 i >>= fun e8 =>
  rd r2 i >>= fun e9 =>
  if (decide (e8 < e9)) = true then
   (some (.ret (-1)))
  else
   rd r1 i >>= fun e11 =>
   rd r2 i >>= fun e12 =>
   if (decide (e11 > e12)) = true then
    (some (.ret 1))
   else
    f68_l0 r1 r2 (IntKind.i64.wrap (i - 1)))
 else
  some (.nxt ())
 partial_fixpoint
/-- sibyl/sibylref01.Cmp -/
def f68 (a : List Int) (b : List Int) : Option (Int) :=
 f56 a >>= fun r1 =>
 f56 b >>= fun r2 =>
 if (decide ((r1.length : Int) < (r2.length : Int))) = true then
  (some (-1))
 else
  if (decide ((r1.length : Int) > (r2.length : Int))) = true then
   (some 1)
  else
   some (IntKind.i64.wrap ((r1.length : Int) - 1)) >>= fun x5 =>
   f68_l0 r1 r2 x5 >>= fun o6 => match o6 with
   | .ret r0 => some r0
   | .nxt wo6 =>
    some 0
noncomputable def f68_ci : CI := (CI.or 56 f56_tbl (fun _ _ _ => none))
theorem f68_ci_ok (base : Nat) : CIOK E base f68_ci := (or_ok f56_tbl_ok no_ok)
theorem f68_res : Try.f68.results = #[.tmp 4] := rfl
theorem f68_rt : Try.f68.resultTypes = #[3] := rfl
theorem f68_l0_ok {base : Nat} {c00 : Ctx} (r1 : List Int) (r2 : List Int) (hU : Under E base c00 nilStore) : ∀ (i : Int) (o6 : Ou Int Unit), f68_l0 r1 r2 i = some o6 →
  WpL E base c00 nilStore (lb Try.f68 0) ⟨jj 5 (.row 0 1 0 ((r1).length) :: .row 1 1 0 ((r2).length) :: .v (.int .i64 i) :: jj 39 []), St [some ⟨1, false, true, List.map (cInt .u32) r1⟩, some ⟨1, false, true, List.map (cInt .u32) r2⟩], none, 0⟩ (fun ex s1 => match o6 with | .ret r0 => ex = .ret ∧ Rt E base c00 Try.f68 (.v (.int .i64 r0)) s1 | .nxt wo6 => ex = .exit 0 ∧ Wk base c00 nilStore s1 ⟨jj 47 [], St [], none, 0⟩) := by
 refine f68_l0.partial_correctness r1 r2 _ ?_
 intro lp__ ih i o6 h
 refine WpL.stepE (lbI Try.f68.eq_1) ?_
 refine Wp.seq <| rs hU (f68_ci_ok _) rgI <| ?_
 refine Wp.cond hU (t := decide (i ≥ 0)) rfl (fun hc7 => ?_) (fun hc7 => ?_)
 ·rw [if_t hc7] at h
  refine Wp.skip <| thenN <| Wp.seq <| Wp.block <| Wp.seq <| Wp.seq <| ?_
  obtain ⟨e8, he8, h⟩ := bind_some h
  obtain ⟨he8a, he8b, he8c⟩ := rd_some he8
  obtain ⟨e9, he9, h⟩ := bind_some h
  obtain ⟨he9a, he9b, he9c⟩ := rd_some he9
  have fx := i7 he8a he8b he8c he9a he9b he9c hc7
  refine Wp.regionT hU (f68_ci_ok _) rgIF (by kernel_rfl) <| thenN <| ?_
  refine Wp.cond hU (t := decide (e8 < e9)) rfl (fun hc10 => ?_) (fun hc10 => ?_)
  ·rw [if_t hc10] at h
   refine Wp.seq <| ?_
   have fx := i2 hc7 hc10
   refine rq hU (f68_ci_ok _) rgIF <| thenN <| Wp.ret <| thenR <| blkR <| thenR <| againR <| ?_
   obtain rfl := sj h
   refine ⟨rfl, ?_⟩
   refine Rt.of <| ?_
   have fx := i2 f68_res f68_rt
   exact rtI
  ·rw [if_f hc10] at h
   refine Wp.skip <| thenN <| Wp.seq <| ?_
   obtain ⟨e11, he11, h⟩ := bind_some h
   obtain ⟨he11a, he11b, he11c⟩ := rd_some he11
   obtain ⟨e12, he12, h⟩ := bind_some h
   obtain ⟨he12a, he12b, he12c⟩ := rd_some he12
   have fx := i8 he11a he11b he11c he12a he12b he12c hc7 hc10
   refine Wp.regionT hU (f68_ci_ok _) rgIF (by kernel_rfl) <| thenN <| ?_
   refine Wp.cond hU (t := decide (e11 > e12)) rfl (fun hc13 => ?_) (fun hc13 => ?_)
   ·rw [if_t hc13] at h
    refine Wp.seq <| ?_
    have fx := i3 hc7 hc10 hc13
    refine rq hU (f68_ci_ok _) rgIF <| thenN <| Wp.ret <| blkR <| thenR <| againR <| ?_
    obtain rfl := sj h
    refine ⟨rfl, ?_⟩
    refine Rt.of <| ?_
    have fx := i2 f68_res f68_rt
    exact rtI
   ·rw [if_f hc13] at h
    refine Wp.skip <| blkN <| thenN <| ?_
    have fx := i3 hc7 hc10 hc13
    refine rq hU (f68_ci_ok _) rgIF <| againN <| ?_
    refine Wk.wpL ?_ (ih (IntKind.i64.wrap (i - 1)) _ h)
    exact Wk.weak hU [some 0, some 1] _ (by decide) wsI wvI
 ·rw [if_f hc7] at h
  refine Wp.exit <| thenE <| againE <| ?_
  obtain rfl := sj h
  refine ⟨rfl, ?_⟩
  exact Wk.weak hU [] _ (by decide) .nil wvI
theorem f68_ok (a : List Int) (b : List Int) (r : Int) (h : f68 a b = some r) : PureOK E 68 [.sl (List.map (cInt .u32) a), .sl (List.map (cInt .u32) b)] (.v (.int .i64 r)) := by
 unfold f68 at h
 refine pof (fn := Try.f68) (nt := 47) Try.func68 rfl rfl rfl rfl (fun _ => rfl) (fun base c00 hU => ?_)
 refine Wk.wp (s2 := ⟨.sl (List.map (cInt .u32) a) :: .sl (List.map (cInt .u32) b) :: jj 45 [], St [], none, 0⟩) ?_ ?_
 ·exact Wk.weak hU [] _ (by decide) .nil wvS
 refine rs hU (f68_ci_ok _) rgI <| Wp.seq <| ?_
 obtain ⟨r1, hr1, h⟩ := bind_some h
 have hr1c := fun σ => show f68_ci 56 _ σ = _ from f56_call hr1 σ
 obtain ⟨r2, hr2, h⟩ := bind_some h
 have hr2c := fun σ => show f68_ci 56 _ σ = _ from f56_call hr2 σ
 have fx := i2 hr1c hr2c
 refine rq hU (f68_ci_ok _) rgIF <| thenN <| Wp.seq <| rs hU (f68_ci_ok _) rgI <| ?_
 refine Wp.cond hU (t := decide ((r1.length : Int) < (r2.length : Int))) rfl (fun hc3 => ?_) (fun hc3 => ?_)
 ·rw [if_t hc3] at h
  refine Wp.seq <| ?_
  have fx := hc3
  refine rq hU (f68_ci_ok _) rgIF <| thenN <| Wp.ret <| thenR <| ?_
  obtain rfl := sj h
  refine ⟨.inl rfl, ?_⟩
  refine Rt.of <| ?_
  have fx := i2 f68_res f68_rt
  exact rtI
 ·rw [if_f hc3] at h
  refine Wp.skip <| thenN <| Wp.seq <| Wp.seq <| ?_
  have fx := hc3
  refine rq hU (f68_ci_ok _) rgIF <| thenN <| ?_
  refine Wp.cond hU (t := decide ((r1.length : Int) > (r2.length : Int))) rfl (fun hc4 => ?_) (fun hc4 => ?_)
  ·rw [if_t hc4] at h
   refine Wp.seq <| ?_
   have fx := i2 hc3 hc4
   refine rq hU (f68_ci_ok _) rgIF <| thenN <| Wp.ret <| thenR <| ?_
   obtain rfl := sj h
   refine ⟨.inl rfl, ?_⟩
   refine Rt.of <| ?_
   have fx := i2 f68_res f68_rt
   exact rtI
  ·rw [if_f hc4] at h
   refine Wp.skip <| thenN <| Wp.seq <| Wp.seq <| ?_
   obtain ⟨x5, hx5, h⟩ := bind_some h
   replace hx5 := sj hx5
   have fx := i3 hx5 hc3 hc4
   refine rq hU (f68_ci_ok _) rgIF <| thenN <| Wp.block <| ?_
   obtain ⟨o6, ho6, h⟩ := bind_some h
   refine Wp.loop <| ?_
   refine Tw.mono (Wk.wpL (s2 := ⟨jj 5 (.row 0 1 0 ((r1).length) :: .row 1 1 0 ((r2).length) :: .v (.int .i64 x5) :: jj 39 []), St [some ⟨1, false, true, List.map (cInt .u32) r1⟩, some ⟨1, false, true, List.map (cInt .u32) r2⟩], none, 0⟩) ?_ (f68_l0_ok r1 r2 hU x5 o6 ho6)) (fun ex s1 hp => ?_)
   ·exact Wk.weak hU [some 0, some 1] _ (by decide) wsI wvI
   ·cases o6 with
    | ret r0 =>
     obtain ⟨rfl, hp⟩ := hp
     obtain rfl := sj h
     refine blkR <| thenR <| ?_
     exact ⟨.inl rfl, hp⟩
    | nxt wo6 =>
     obtain ⟨rfl, hp⟩ := hp
     dsimp only at h
     refine blkE <| thenN <| hp.wp <| Wp.seq <| ?_
     have fx := i2 hc3 hc4
     refine rq hU (f68_ci_ok _) rgIF <| thenN <| Wp.ret <| ?_
     obtain rfl := sj h
     refine ⟨.inl rfl, ?_⟩
     refine Rt.of <| ?_
     have fx := i2 f68_res f68_rt
     exact rtI
noncomputable def f68_tbl : CI := tbl 68 (fun p : (List Int) × (List Int) => [.sl (List.map (cInt .u32) p.1), .sl (List.map (cInt .u32) p.2)]) (fun p => (f68 p.1 p.2).map fun r => .v (.int .i64 r))
theorem f68_tbl_ok {base : Nat} : CIOK E base f68_tbl := tbl_okM fun p q h => f68_ok p.1 p.2 q h
theorem f68_call {a : List Int} {b : List Int} {r : Int} (h : f68 a b = some r) (σ : Store) : f68_tbl 68 [.sl (List.map (cInt .u32) a), .sl (List.map (cInt .u32) b)] σ = some (.v (.int .i64 r), σ, none) :=
 tbl_eq (x := (a, b)) (fun x y e => by
  obtain ⟨x0, x1⟩ := x; obtain ⟨y0, y1⟩ := y
  have e0 := av_sl inj_int (List.cons.inj e).1
  have e1 := av_sl inj_int (List.cons.inj (List.cons.inj e).2).1
  subst e0 e1; rfl) (by simp [h]) σ
end Go.Bx.Scan
