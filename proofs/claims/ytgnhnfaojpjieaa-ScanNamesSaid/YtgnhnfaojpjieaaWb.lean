/- What the program's functions compute, shown of their code (Wb). Own text; parts are printed by a program of this claim's author. -/
import Derived.Test.YtgnhnfaojpjieaaWa
/- sibyl/nats.digit, printed by pf.py. (Own text.) -/
namespace Go.Bx.Scan
set_option linter.unusedVariables false
set_option linter.unusedSimpArgs false
set_option linter.unusedSectionVars false
open Go.Proofs
set_option linter.unusedSimpArgs false
set_option linter.unusedVariables false
set_option maxRecDepth 10000
def f77_l0 (u : List Int) (u_lo : Nat) (u_n : Nat) (v : List Int) (g : Int) (r_ : Int) : Option (Int) :=
  if (decide (g ≥ 4294967296)) = true then
    (rd v (IntKind.i64.wrap ((v.length : Int) - 1)) >>= fun e8 =>
    some (IntKind.u64.wrap (r_ + (IntKind.u64.wrap e8))) >>= fun x9 =>
    if (decide (x9 ≥ 4294967296)) = true then
      (some (IntKind.u64.wrap (g - 1)))
    else
      f77_l0 u u_lo u_n v (IntKind.u64.wrap (g - 1)) x9)
  else
    rd v (IntKind.i64.wrap ((v.length : Int) - 2)) >>= fun e8 =>
    rdo u u_lo u_n (IntKind.i64.wrap ((v.length : Int) - 2)) >>= fun e9 =>
    if (decide ((IntKind.u64.wrap (g * (IntKind.u64.wrap e8))) > (orI .u64 (shlI .u64 r_ 32) (IntKind.u64.wrap e9)))) = true then
      (rd v (IntKind.i64.wrap ((v.length : Int) - 1)) >>= fun e11 =>
      some (IntKind.u64.wrap (r_ + (IntKind.u64.wrap e11))) >>= fun x12 =>
      if (decide (x12 ≥ 4294967296)) = true then
        (some (IntKind.u64.wrap (g - 1)))
      else
        f77_l0 u u_lo u_n v (IntKind.u64.wrap (g - 1)) x12)
    else
      some g
  partial_fixpoint

def f77_l1 (u_lo : Nat) (u_n : Nat) (v : List Int) (o7 : Int) (l0 : List Int) (borrow : Int) (carry : Int) (v_1 : Int) : Option ((List Int) × Int × Int) :=
  if (decide (v_1 < (v.length : Int))) = true then
    (rd v v_1 >>= fun e16 =>
    some (IntKind.u64.wrap ((IntKind.u64.wrap (o7 * (IntKind.u64.wrap e16))) + carry)) >>= fun x17 =>
    rdo l0 u_lo u_n v_1 >>= fun e18 =>
    some (IntKind.u64.wrap ((IntKind.u64.wrap ((IntKind.u64.wrap e18) - (IntKind.u64.wrap (IntKind.u32.wrap x17)))) - borrow)) >>= fun x19 =>
    rdo l0 u_lo u_n v_1 >>= fun e20 =>
    f77_l1 u_lo u_n v o7 (setO l0 u_lo v_1 (IntKind.u32.wrap x19)) (shrI .u64 x19 63) (shrI .u64 x17 32) (IntKind.i64.wrap (v_1 + 1)))
  else
    some (l0, borrow, carry)
  partial_fixpoint

def f77_l2 (u_lo : Nat) (u_n : Nat) (v : List Int) (l0 : List Int) (c : Int) (v_1 : Int) : Option ((List Int) × Int) :=
  if (decide (v_1 < (v.length : Int))) = true then
    (rdo l0 u_lo u_n v_1 >>= fun e27 =>
    rd v v_1 >>= fun e28 =>
    f80 e27 e28 c >>= fun r29 =>
    f77_l2 u_lo u_n v (setO l0 u_lo v_1 r29.1) r29.2 (IntKind.i64.wrap (v_1 + 1)))
  else
    some (l0, c)
  partial_fixpoint

/-- sibyl/nats.digit -/
def f77 (u : List Int) (u_lo : Nat) (u_n : Nat) (v : List Int) : Option (Int × (List Int)) :=
  rdo u u_lo u_n (v.length : Int) >>= fun e1 =>
  rdo u u_lo u_n (IntKind.i64.wrap ((v.length : Int) - 1)) >>= fun e2 =>
  some (orI .u64 (shlI .u64 (IntKind.u64.wrap e1) 32) (IntKind.u64.wrap e2)) >>= fun x3 =>
  rd v (IntKind.i64.wrap ((v.length : Int) - 1)) >>= fun e4 =>
  nz (IntKind.u64.wrap e4) >>= fun u5 =>
  nz (IntKind.u64.wrap e4) >>= fun u6 =>
  f77_l0 u u_lo u_n v (quoI .u64 x3 (IntKind.u64.wrap e4)) (x3.tmod (IntKind.u64.wrap e4)) >>= fun o7 =>
  f77_l1 u_lo u_n v o7 u 0 0 0 >>= fun o14 =>
  rdo o14.1 u_lo u_n (v.length : Int) >>= fun e21 =>
  some (IntKind.u64.wrap ((IntKind.u64.wrap ((IntKind.u64.wrap e21) - o14.2.2)) - o14.2.1)) >>= fun x22 =>
  rdo o14.1 u_lo u_n (v.length : Int) >>= fun e23 =>
  if ((shrI .u64 x22 63) == 0) = true then
    (some (IntKind.u32.wrap o7, setO o14.1 u_lo (v.length : Int) (IntKind.u32.wrap x22)))
  else
    f77_l2 u_lo u_n v (setO o14.1 u_lo (v.length : Int) (IntKind.u32.wrap x22)) 0 0 >>= fun o25 =>
    rdo o25.1 u_lo u_n (v.length : Int) >>= fun e30 =>
    some (IntKind.u32.wrap (IntKind.u64.wrap (o7 - 1))) >>= fun x31 =>
    some (x31, setO o25.1 u_lo (v.length : Int) (IntKind.u32.wrap (e30 + o25.2)))

noncomputable def f77_ci : CI := (CI.or 80 f80_tbl (fun _ _ _ => none))
theorem f77_ci_ok (base : Nat) : CIOK E base f77_ci := (or_ok f80_tbl_ok no_ok)
theorem f77_res : Try.f77.results = #[.tmp 4] := rfl

def f77_S (u : List Int) (u_lo : Nat) (u_n : Nat) (v : List Int) : List (Option Obj) := [some ⟨1, false, true, List.map (cInt .u32) u⟩]
set_option maxHeartbeats 4000000 in
theorem f77_l0_ok {base : Nat} {c00 : Ctx} (u : List Int) (u_lo : Nat) (u_n : Nat) (v : List Int) (hU : Under E base c00 (St (f77_S u u_lo u_n v))) : ∀ (g : Int) (r_ : Int) (o7 : Int), f77_l0 u u_lo u_n v g r_ = some o7 →
    WpL E base c00 (St (f77_S u u_lo u_n v)) (lb Try.f77 0) ⟨.row 0 1 u_lo u_n :: .sl (List.map (cInt .u32) v) :: jj 3 (.v (.int .i64 (v.length : Int)) :: jj 1 (.v (.int .u64 g) :: .v (.int .u64 r_) :: jj 157 [])), St [some ⟨1, false, true, List.map (cInt .u32) u⟩], some 0, 1⟩ (fun ex s1 => ex = .exit 0 ∧ Wk base c00 (St (f77_S u u_lo u_n v)) s1 ⟨.row 0 1 u_lo u_n :: .sl (List.map (cInt .u32) v) :: jj 3 (.v (.int .i64 (v.length : Int)) :: jj 1 (.v (.int .u64 o7) :: jj 158 [])), St [some ⟨1, false, true, List.map (cInt .u32) u⟩], some 0, 1⟩) := by
  refine f77_l0.partial_correctness u u_lo u_n v _ ?_
  intro lp__ ih g r_ o7 h
  refine WpL.stepE (by simp only [Try.f77, lb, Option.getD_some, loopsOf, List.nil_append, List.append_nil, List.cons_append, List.getElem?_cons_zero, List.getElem?_cons_succ] <;> rfl) ?_
  refine Wp.seq <| Wp.seq <| ?_
  rcases Bool.eq_false_or_eq_true (decide (g ≥ 4294967296)) with hg36 | hg36
  · rw [if_t hg36] at h
    have fx := hg36
    refine Wp.regionT hU (f77_ci_ok _) rgJF (by kernel_rfl) <| thenN <| ?_
    refine Wp.cond hU (t := true) rfl (fun _ => ?_) (fun hc => by cases hc)
    refine Wp.skip <| thenN <| Wp.block <| Wp.seq <| Wp.region hU (f77_ci_ok _) rgJF <| thenN <| Wp.seq <| ?_
    obtain ⟨e8, he8, h⟩ := bind_some h
    obtain ⟨he8a, he8b, he8c⟩ := rd_some he8
    obtain ⟨x9, hx9, h⟩ := bind_some h
    replace hx9 := Option.some.inj hx9
    have fx := i5 he8a he8b he8c hx9 hg36
    refine Wp.region hU (f77_ci_ok _) rgJF <| thenN <| Wp.seq <| ?_
    have fx := hg36
    refine Wp.region hU (f77_ci_ok _) rgJF <| thenN <| ?_
    refine Wp.cond hU (t := decide (x9 ≥ 4294967296)) rfl (fun hc10 => ?_) (fun hc10 => ?_)
    · rw [if_t hc10] at h
      refine Wp.exit <| ?_
      refine blkX (by decide) ?_
      refine againE <| ?_
      obtain rfl := Option.some.inj h
      refine ⟨rfl, ?_⟩
      refine Wk.weakK hU [some 0] _ (by decide) (k := 1) rfl rfl ?_ ?_
      · refine .obj rfl ?_ ?_
        · exact woI
        exact .nil
      · exact wvJ
    · rw [if_f hc10] at h
      refine Wp.skip <| blkN <| againN <| ?_
      refine Wk.wpL ?_ (ih (IntKind.u64.wrap (g - 1)) x9 _ h)
      refine Wk.weakK hU [some 0] _ (by decide) (k := 1) rfl rfl ?_ ?_
      · refine .obj rfl ?_ ?_
        · exact woI
        exact .nil
      · exact wvJ
  · rw [if_f hg36] at h
    obtain ⟨e8, he8, h⟩ := bind_some h
    obtain ⟨he8a, he8b, he8c⟩ := rd_some he8
    obtain ⟨e9, he9, h⟩ := bind_some h
    obtain ⟨he9a, he9b, he9c⟩ := rdo_some he9
    try simp only [Int.toNat_natCast] at he9b he9c
    have fx := i7 he8a he8b he8c he9a he9b he9c hg36
    refine Wp.regionT hU (f77_ci_ok _) rgJF (by kernel_rfl) <| thenN <| ?_
    refine Wp.cond hU (t := decide ((IntKind.u64.wrap (g * (IntKind.u64.wrap e8))) > (orI .u64 (shlI .u64 r_ 32) (IntKind.u64.wrap e9)))) rfl (fun hc10 => ?_) (fun hc10 => ?_)
    · rw [if_t hc10] at h
      refine Wp.skip <| thenN <| Wp.block <| Wp.seq <| ?_
      have fx := i2 hg36 hc10
      refine Wp.region hU (f77_ci_ok _) rgJF <| thenN <| Wp.seq <| ?_
      obtain ⟨e11, he11, h⟩ := bind_some h
      obtain ⟨he11a, he11b, he11c⟩ := rd_some he11
      obtain ⟨x12, hx12, h⟩ := bind_some h
      replace hx12 := Option.some.inj hx12
      have fx := i6 he11a he11b he11c hx12 hg36 hc10
      refine Wp.region hU (f77_ci_ok _) rgJF <| thenN <| Wp.seq <| ?_
      have fx := i2 hg36 hc10
      refine Wp.region hU (f77_ci_ok _) rgJF <| thenN <| ?_
      refine Wp.cond hU (t := decide (x12 ≥ 4294967296)) rfl (fun hc13 => ?_) (fun hc13 => ?_)
      · rw [if_t hc13] at h
        refine Wp.exit <| ?_
        refine blkX (by decide) ?_
        refine againE <| ?_
        obtain rfl := Option.some.inj h
        refine ⟨rfl, ?_⟩
        refine Wk.weakK hU [some 0] _ (by decide) (k := 1) rfl rfl ?_ ?_
        · refine .obj rfl ?_ ?_
          · exact woI
          exact .nil
        · exact wvJ
      · rw [if_f hc13] at h
        refine Wp.skip <| blkN <| againN <| ?_
        refine Wk.wpL ?_ (ih (IntKind.u64.wrap (g - 1)) x12 _ h)
        refine Wk.weakK hU [some 0] _ (by decide) (k := 1) rfl rfl ?_ ?_
        · refine .obj rfl ?_ ?_
          · exact woI
          exact .nil
        · exact wvJ
    · rw [if_f hc10] at h
      refine Wp.exit <| thenE <| againE <| ?_
      obtain rfl := Option.some.inj h
      refine ⟨rfl, ?_⟩
      refine Wk.weakK hU [some 0] _ (by decide) (k := 1) rfl rfl ?_ ?_
      · refine .obj rfl ?_ ?_
        · exact woI
        exact .nil
      · exact wvJ

set_option maxHeartbeats 4000000 in
theorem f77_l1_ok {base : Nat} {c00 : Ctx} (u_lo : Nat) (u_n : Nat) (v : List Int) (o7 : Int) (u : List Int) (hU : Under E base c00 (St (f77_S u u_lo u_n v))) : ∀ (l0 : List Int) (borrow : Int) (carry : Int) (v_1 : Int) (o14 : (List Int) × Int × Int), f77_l1 u_lo u_n v o7 l0 borrow carry v_1 = some o14 →
    WpL E base c00 (St (f77_S u u_lo u_n v)) (lb Try.f77 1) ⟨.row 0 1 u_lo u_n :: .sl (List.map (cInt .u32) v) :: jj 3 (.v (.int .i64 (v.length : Int)) :: jj 1 (.v (.int .u64 o7) :: jj 1 (.v (.int .u64 borrow) :: .v (.int .u64 carry) :: jj 71 (.v (.int .i64 (v.length : Int)) :: .v (.int .i64 v_1) :: jj 82 [])))), St [some ⟨1, false, true, List.map (cInt .u32) l0⟩], some 0, 1⟩ (fun ex s1 => ex = .exit 2 ∧ Wk base c00 (St (f77_S u u_lo u_n v)) s1 ⟨.row 0 1 u_lo u_n :: .sl (List.map (cInt .u32) v) :: jj 3 (.v (.int .i64 (v.length : Int)) :: jj 1 (.v (.int .u64 o7) :: jj 1 (.v (.int .u64 o14.2.1) :: .v (.int .u64 o14.2.2) :: jj 155 []))), St [some ⟨1, false, true, List.map (cInt .u32) o14.1⟩], some 0, 1⟩) := by
  refine f77_l1.partial_correctness u_lo u_n v o7 _ ?_
  intro lp__ ih l0 borrow carry v_1 o14 h
  refine WpL.stepE (by simp only [Try.f77, lb, Option.getD_some, loopsOf, List.nil_append, List.append_nil, List.cons_append, List.getElem?_cons_zero, List.getElem?_cons_succ] <;> rfl) ?_
  refine Wp.seq <| Wp.region hU (f77_ci_ok _) rgJ <| thenN <| Wp.seq <| ?_
  refine Wp.cond hU (t := decide (v_1 < (v.length : Int))) rfl (fun hc15 => ?_) (fun hc15 => ?_)
  · rw [if_t hc15] at h
    refine Wp.skip <| thenN <| Wp.seq <| Wp.block <| Wp.seq <| ?_
    have fx := hc15
    refine Wp.region hU (f77_ci_ok _) rgJF <| thenN <| Wp.seq <| ?_
    obtain ⟨e16, he16, h⟩ := bind_some h
    obtain ⟨he16a, he16b, he16c⟩ := rd_some he16
    obtain ⟨x17, hx17, h⟩ := bind_some h
    replace hx17 := Option.some.inj hx17
    have fx := i5 he16a he16b he16c hx17 hc15
    refine Wp.region hU (f77_ci_ok _) rgJF <| thenN <| Wp.seq <| ?_
    have fx := hc15
    refine Wp.region hU (f77_ci_ok _) rgJF <| thenN <| Wp.seq <| ?_
    obtain ⟨e18, he18, h⟩ := bind_some h
    obtain ⟨he18a, he18b, he18c⟩ := rdo_some he18
    try simp only [Int.toNat_natCast] at he18b he18c
    obtain ⟨x19, hx19, h⟩ := bind_some h
    replace hx19 := Option.some.inj hx19
    have fx := i5 he18a he18b he18c hx19 hc15
    refine Wp.region hU (f77_ci_ok _) rgJF <| thenN <| ?_
    obtain ⟨e20, he20, h⟩ := bind_some h
    obtain ⟨he20a, he20b, he20c⟩ := rdo_some he20
    try simp only [Int.toNat_natCast] at he20b he20c
    have fx := i4 he20a he20b he20c hc15
    refine Wp.region hU (f77_ci_ok _) rgJF <| blkN <| thenN <| ?_
    refine Wk.wp (s2 := ⟨.row 0 1 u_lo u_n :: .sl (List.map (cInt .u32) v) :: jj 3 (.v (.int .i64 (v.length : Int)) :: jj 1 (.v (.int .u64 o7) :: jj 1 (.v (.int .u64 (shrI .u64 x19 63)) :: .v (.int .u64 (shrI .u64 x17 32)) :: jj 71 (.v (.int .i64 (v.length : Int)) :: .v (.int .i64 v_1) :: jj 82 [])))), St [some ⟨1, false, true, List.map (cInt .u32) (setO l0 u_lo v_1 (IntKind.u32.wrap x19))⟩], some 0, 1⟩) ?_ ?_
    · refine Wk.weakK hU [some 0] _ (by decide) (k := 1) rfl rfl ?_ ?_
      · refine .obj rfl ?_ ?_
        · exact woI
        exact .nil
      · exact wvJ
    have fx := hc15
    refine Wp.region hU (f77_ci_ok _) rgJF <| againN <| ?_
    refine Wk.wpL ?_ (ih (setO l0 u_lo v_1 (IntKind.u32.wrap x19)) (shrI .u64 x19 63) (shrI .u64 x17 32) (IntKind.i64.wrap (v_1 + 1)) _ h)
    refine Wk.weakK hU [some 0] _ (by decide) (k := 1) rfl rfl ?_ ?_
    · refine .obj rfl ?_ ?_
      · exact woI
      exact .nil
    · exact wvJ
  · rw [if_f hc15] at h
    refine Wp.exit <| thenE <| againE <| ?_
    obtain rfl := Option.some.inj h
    refine ⟨rfl, ?_⟩
    refine Wk.weakK hU [some 0] _ (by decide) (k := 1) rfl rfl ?_ ?_
    · refine .obj rfl ?_ ?_
      · exact woI
      exact .nil
    · exact wvJ

set_option maxHeartbeats 4000000 in
theorem f77_l2_ok {base : Nat} {c00 : Ctx} (u_lo : Nat) (u_n : Nat) (v : List Int) (u : List Int) (o7 : Int) (hU : Under E base c00 (St (f77_S u u_lo u_n v))) : ∀ (l0 : List Int) (c : Int) (v_1 : Int) (o25 : (List Int) × Int), f77_l2 u_lo u_n v l0 c v_1 = some o25 →
    WpL E base c00 (St (f77_S u u_lo u_n v)) (lb Try.f77 2) ⟨.row 0 1 u_lo u_n :: .sl (List.map (cInt .u32) v) :: jj 3 (.v (.int .i64 (v.length : Int)) :: jj 1 (.v (.int .u64 o7) :: jj 7 (.v (.int .u32 c) :: jj 119 (.v (.int .i64 (v.length : Int)) :: .v (.int .i64 v_1) :: jj 29 [])))), St [some ⟨1, false, true, List.map (cInt .u32) l0⟩], some 0, 1⟩ (fun ex s1 => ex = .exit 4 ∧ Wk base c00 (St (f77_S u u_lo u_n v)) s1 ⟨.row 0 1 u_lo u_n :: jj 4 (.v (.int .i64 (v.length : Int)) :: jj 1 (.v (.int .u64 o7) :: jj 7 (.v (.int .u32 o25.2) :: jj 150 []))), St [some ⟨1, false, true, List.map (cInt .u32) o25.1⟩], some 0, 1⟩) := by
  refine f77_l2.partial_correctness u_lo u_n v _ ?_
  intro lp__ ih l0 c v_1 o25 h
  refine WpL.stepE (by simp only [Try.f77, lb, Option.getD_some, loopsOf, List.nil_append, List.append_nil, List.cons_append, List.getElem?_cons_zero, List.getElem?_cons_succ] <;> rfl) ?_
  refine Wp.seq <| Wp.region hU (f77_ci_ok _) rgJ <| thenN <| Wp.seq <| ?_
  refine Wp.cond hU (t := decide (v_1 < (v.length : Int))) rfl (fun hc26 => ?_) (fun hc26 => ?_)
  · rw [if_t hc26] at h
    refine Wp.skip <| thenN <| Wp.seq <| Wp.block <| Wp.seq <| ?_
    have fx := hc26
    refine Wp.region hU (f77_ci_ok _) rgJF <| thenN <| ?_
    obtain ⟨e27, he27, h⟩ := bind_some h
    obtain ⟨he27a, he27b, he27c⟩ := rdo_some he27
    try simp only [Int.toNat_natCast] at he27b he27c
    obtain ⟨e28, he28, h⟩ := bind_some h
    obtain ⟨he28a, he28b, he28c⟩ := rd_some he28
    obtain ⟨r29, hr29, h⟩ := bind_some h
    have hr29c : ∀ σ, f77_ci 80 [.v (.int .u32 e27), .v (.int .u32 e28), .v (.int .u32 c)] σ = some (.tup [.v (.int .u32 r29.1), .v (.int .u32 r29.2)], σ, none) := fun σ => f80_call hr29 σ
    have fx := i8 he27a he27b he27c he28a he28b he28c hr29c hc26
    refine Wp.regionT hU (f77_ci_ok _) rgJF (by kernel_rfl) <| blkN <| thenN <| ?_
    refine Wk.wp (s2 := ⟨.row 0 1 u_lo u_n :: .sl (List.map (cInt .u32) v) :: jj 3 (.v (.int .i64 (v.length : Int)) :: jj 1 (.v (.int .u64 o7) :: jj 7 (.v (.int .u32 r29.2) :: jj 119 (.v (.int .i64 (v.length : Int)) :: .v (.int .i64 v_1) :: jj 29 [])))), St [some ⟨1, false, true, List.map (cInt .u32) (setO l0 u_lo v_1 r29.1)⟩], some 0, 1⟩) ?_ ?_
    · refine Wk.weakK hU [some 0] _ (by decide) (k := 1) rfl rfl ?_ ?_
      · refine .obj rfl ?_ ?_
        · exact woI
        exact .nil
      · exact wvJ
    have fx := hc26
    refine Wp.region hU (f77_ci_ok _) rgJF <| againN <| ?_
    refine Wk.wpL ?_ (ih (setO l0 u_lo v_1 r29.1) r29.2 (IntKind.i64.wrap (v_1 + 1)) _ h)
    refine Wk.weakK hU [some 0] _ (by decide) (k := 1) rfl rfl ?_ ?_
    · refine .obj rfl ?_ ?_
      · exact woI
      exact .nil
    · exact wvJ
  · rw [if_f hc26] at h
    refine Wp.exit <| thenE <| againE <| ?_
    obtain rfl := Option.some.inj h
    refine ⟨rfl, ?_⟩
    refine Wk.weakK hU [some 0] _ (by decide) (k := 1) rfl rfl ?_ ?_
    · refine .obj rfl ?_ ?_
      · exact woI
      exact .nil
    · exact wvJ

set_option maxHeartbeats 4000000 in
theorem f77_ok (u : List Int) (u_lo : Nat) (u_n : Nat) (v : List Int) (r : Int × (List Int)) (h : f77 u u_lo u_n v = some r) : RefC E 77 1 [.row 0 1 u_lo u_n, .sl (List.map (cInt .u32) v)] (f77_S u u_lo u_n v) (.v (.int .u32 r.1)) [some ⟨1, false, true, List.map (cInt .u32) r.2⟩] := by
  unfold f77 at h
  refine ref_of_wp tabOK mixed (fn := Try.f77) (nt := 166) Try.func77 rfl rfl (names _ _ Try.func77) (fun _ => rfl) (refOK_of rfl) (fun base c00 hU => ?_)
  refine Wk.wp (s2 := ⟨.row 0 1 u_lo u_n :: .sl (List.map (cInt .u32) v) :: jj 164 [], St [some ⟨1, false, true, List.map (cInt .u32) u⟩], some 0, 1⟩) ?_ ?_
  · refine Wk.weakK hU [some 0] _ (by decide) (k := 1) rfl rfl ?_ ?_
    refine .obj rfl ?_ ?_
    · exact .same _ _ _
    · exact .nil
    simp only [jjs, List.length_cons, List.length_nil, Nat.reduceAdd, Nat.reduceSub, List.replicate, List.cons_append, List.nil_append]
    repeat' (first | exact WVs.nil | refine WVs.cons ?_ ?_)
    all_goals first | exact WV.junk _ | exact WV.keep rfl | exact WV.row rfl | exact WV.ptr rfl | exact WV.tptr rfl | exact .agg rfl (aggKeep rfl)
  refine Wp.seq <| Wp.region hU (f77_ci_ok _) rgJ <| thenN <| Wp.seq <| Wp.region hU (f77_ci_ok _) rgJ <| thenN <| Wp.seq <| ?_
  obtain ⟨e1, he1, h⟩ := bind_some h
  obtain ⟨he1a, he1b, he1c⟩ := rdo_some he1
  try simp only [Int.toNat_natCast] at he1b he1c
  obtain ⟨e2, he2, h⟩ := bind_some h
  obtain ⟨he2a, he2b, he2c⟩ := rdo_some he2
  try simp only [Int.toNat_natCast] at he2b he2c
  obtain ⟨x3, hx3, h⟩ := bind_some h
  replace hx3 := Option.some.inj hx3
  have fx := i7 he1a he1b he1c he2a he2b he2c hx3
  refine Wp.regionT hU (f77_ci_ok _) rgJF (by kernel_rfl) <| thenN <| Wp.seq <| ?_
  obtain ⟨e4, he4, h⟩ := bind_some h
  obtain ⟨he4a, he4b, he4c⟩ := rd_some he4
  obtain ⟨u5, hu5, h⟩ := bind_some h
  have hu5a := nz_some hu5
  obtain ⟨u6, hu6, h⟩ := bind_some h
  have hu6a := nz_some hu6
  have fx := i5 he4a he4b he4c hu5a hu6a
  refine Wp.regionT hU (f77_ci_ok _) rgJF (by kernel_rfl) <| thenN <| Wp.seq <| Wp.block <| ?_
  obtain ⟨o7, ho7, h⟩ := bind_some h
  refine Wp.loop <| ?_
  refine Tw.mono (Wk.wpL (s2 := ⟨.row 0 1 u_lo u_n :: .sl (List.map (cInt .u32) v) :: jj 3 (.v (.int .i64 (v.length : Int)) :: jj 1 (.v (.int .u64 (quoI .u64 x3 (IntKind.u64.wrap e4))) :: .v (.int .u64 (x3.tmod (IntKind.u64.wrap e4))) :: jj 157 [])), St [some ⟨1, false, true, List.map (cInt .u32) u⟩], some 0, 1⟩) ?_ (f77_l0_ok u u_lo u_n v hU (quoI .u64 x3 (IntKind.u64.wrap e4)) (x3.tmod (IntKind.u64.wrap e4)) o7 ho7)) (fun ex s1 hp => ?_)
  · refine Wk.weakK hU [some 0] _ (by decide) (k := 1) rfl rfl ?_ ?_
    · refine .obj rfl ?_ ?_
      · exact woI
      exact .nil
    · exact wvJ
  · obtain ⟨rfl, hp⟩ := hp
    refine blkE <| thenN <| hp.wp <| Wp.seq <| Wp.region hU (f77_ci_ok _) rgJ <| thenN <| Wp.seq <| Wp.seq <| Wp.region hU (f77_ci_ok _) rgJ <| thenN <| Wp.block <| ?_
    obtain ⟨o14, ho14, h⟩ := bind_some h
    refine Wp.loop <| ?_
    refine Tw.mono (Wk.wpL (s2 := ⟨.row 0 1 u_lo u_n :: .sl (List.map (cInt .u32) v) :: jj 3 (.v (.int .i64 (v.length : Int)) :: jj 1 (.v (.int .u64 o7) :: jj 1 (.v (.int .u64 0) :: .v (.int .u64 0) :: jj 71 (.v (.int .i64 (v.length : Int)) :: .v (.int .i64 0) :: jj 82 [])))), St [some ⟨1, false, true, List.map (cInt .u32) u⟩], some 0, 1⟩) ?_ (f77_l1_ok u_lo u_n v o7 u hU u 0 0 0 o14 ho14)) (fun ex s1 hp => ?_)
    · refine Wk.weakK hU [some 0] _ (by decide) (k := 1) rfl rfl ?_ ?_
      · refine .obj rfl ?_ ?_
        · exact woI
        exact .nil
      · exact wvJ
    · obtain ⟨rfl, hp⟩ := hp
      refine blkE <| thenN <| hp.wp <| Wp.seq <| ?_
      obtain ⟨e21, he21, h⟩ := bind_some h
      obtain ⟨he21a, he21b, he21c⟩ := rdo_some he21
      try simp only [Int.toNat_natCast] at he21b he21c
      obtain ⟨x22, hx22, h⟩ := bind_some h
      replace hx22 := Option.some.inj hx22
      have fx := i4 he21a he21b he21c hx22
      refine Wp.region hU (f77_ci_ok _) rgJF <| thenN <| Wp.seq <| ?_
      obtain ⟨e23, he23, h⟩ := bind_some h
      obtain ⟨he23a, he23b, he23c⟩ := rdo_some he23
      try simp only [Int.toNat_natCast] at he23b he23c
      have fx := i3 he23a he23b he23c
      refine Wp.region hU (f77_ci_ok _) rgJF <| thenN <| ?_
      refine Wk.wp (s2 := ⟨.row 0 1 u_lo u_n :: .sl (List.map (cInt .u32) v) :: jj 3 (.v (.int .i64 (v.length : Int)) :: jj 1 (.v (.int .u64 o7) :: jj 6 (.v (.int .u64 x22) :: jj 151 []))), St [some ⟨1, false, true, List.map (cInt .u32) (setO o14.1 u_lo (v.length : Int) (IntKind.u32.wrap x22))⟩], some 0, 1⟩) ?_ ?_
      · refine Wk.weakK hU [some 0] _ (by decide) (k := 1) rfl rfl ?_ ?_
        · refine .obj rfl ?_ ?_
          · exact woI
          exact .nil
        · exact wvJ
      refine Wp.seq <| Wp.seq <| Wp.region hU (f77_ci_ok _) rgJ <| thenN <| ?_
      refine Wp.cond hU (t := (shrI .u64 x22 63) == 0) rfl (fun hc24 => ?_) (fun hc24 => ?_)
      · rw [if_t hc24] at h
        refine Wp.seq <| ?_
        have fx := hc24
        refine Wp.region hU (f77_ci_ok _) rgJF <| thenN <| Wp.ret <| thenR <| ?_
        obtain rfl := Option.some.inj h
        refine ⟨.inl rfl, ?_⟩
        refine RtR.wk (s2 := ⟨jj 4 (.v (.int .u32 (IntKind.u32.wrap o7)) :: jj 161 []), St [some ⟨1, false, true, List.map (cInt .u32) (setO o14.1 u_lo (v.length : Int) (IntKind.u32.wrap x22))⟩], some 0, 1⟩) ?_ (RtR.of rfl rfl)
        · refine Wk.weakK hU [some 0] _ (by decide) (k := 1) rfl rfl ?_ ?_
          · refine .obj rfl ?_ ?_
            · exact woI
            exact .nil
          · exact wvJ
      · rw [if_f hc24] at h
        refine Wp.skip <| thenN <| Wp.seq <| ?_
        have fx := hc24
        refine Wp.region hU (f77_ci_ok _) rgJF <| thenN <| Wp.seq <| Wp.seq <| Wp.region hU (f77_ci_ok _) rgJF <| thenN <| Wp.block <| ?_
        obtain ⟨o25, ho25, h⟩ := bind_some h
        refine Wp.loop <| ?_
        refine Tw.mono (Wk.wpL (s2 := ⟨.row 0 1 u_lo u_n :: .sl (List.map (cInt .u32) v) :: jj 3 (.v (.int .i64 (v.length : Int)) :: jj 1 (.v (.int .u64 o7) :: jj 7 (.v (.int .u32 0) :: jj 119 (.v (.int .i64 (v.length : Int)) :: .v (.int .i64 0) :: jj 29 [])))), St [some ⟨1, false, true, List.map (cInt .u32) (setO o14.1 u_lo (v.length : Int) (IntKind.u32.wrap x22))⟩], some 0, 1⟩) ?_ (f77_l2_ok u_lo u_n v u o7 hU (setO o14.1 u_lo (v.length : Int) (IntKind.u32.wrap x22)) 0 0 o25 ho25)) (fun ex s1 hp => ?_)
        · refine Wk.weakK hU [some 0] _ (by decide) (k := 1) rfl rfl ?_ ?_
          · refine .obj rfl ?_ ?_
            · exact woI
            exact .nil
          · exact wvJ
        · obtain ⟨rfl, hp⟩ := hp
          refine blkE <| thenN <| hp.wp <| Wp.seq <| ?_
          obtain ⟨e30, he30, h⟩ := bind_some h
          obtain ⟨he30a, he30b, he30c⟩ := rdo_some he30
          try simp only [Int.toNat_natCast] at he30b he30c
          have fx := i4 he30a he30b he30c hc24
          refine Wp.region hU (f77_ci_ok _) rgJF <| thenN <| ?_
          refine Wk.wp (s2 := ⟨jj 7 (.v (.int .u64 o7) :: jj 158 []), St [some ⟨1, false, true, List.map (cInt .u32) (setO o25.1 u_lo (v.length : Int) (IntKind.u32.wrap (e30 + o25.2)))⟩], some 0, 1⟩) ?_ ?_
          · refine Wk.weakK hU [some 0] _ (by decide) (k := 1) rfl rfl ?_ ?_
            · refine .obj rfl ?_ ?_
              · exact woI
              exact .nil
            · exact wvJ
          refine Wp.seq <| ?_
          obtain ⟨x31, hx31, h⟩ := bind_some h
          replace hx31 := Option.some.inj hx31
          have fx := i2 hx31 hc24
          refine Wp.region hU (f77_ci_ok _) rgJF <| thenN <| Wp.ret <| ?_
          obtain rfl := Option.some.inj h
          refine ⟨.inl rfl, ?_⟩
          refine RtR.wk (s2 := ⟨jj 4 (.v (.int .u32 x31) :: jj 161 []), St [some ⟨1, false, true, List.map (cInt .u32) (setO o25.1 u_lo (v.length : Int) (IntKind.u32.wrap (e30 + o25.2)))⟩], some 0, 1⟩) ?_ (RtR.of rfl rfl)
          · refine Wk.weakK hU [some 0] _ (by decide) (k := 1) rfl rfl ?_ ?_
            · refine .obj rfl ?_ ?_
              · exact woI
              exact .nil
            · exact wvJ

theorem f77_l1_len (u_lo u_n : Nat) (v : List Int) (o7 : Int) : ∀ (l0 : List Int) (b c j : Int) (o : List Int × Int × Int), f77_l1 u_lo u_n v o7 l0 b c j = some o → o.1.length = l0.length := by
  refine f77_l1.partial_correctness u_lo u_n v o7 _ ?_
  intro lp ih l0 b c j o h
  split at h
  · obtain ⟨_, _, h⟩ := bind_some h
    obtain ⟨_, _, h⟩ := bind_some h
    obtain ⟨_, _, h⟩ := bind_some h
    obtain ⟨_, _, h⟩ := bind_some h
    obtain ⟨_, _, h⟩ := bind_some h
    have := ih _ _ _ _ _ h
    simpa only [setO_len] using this
  · cases h; rfl
theorem f77_l2_len (u_lo u_n : Nat) (v : List Int) : ∀ (l0 : List Int) (c j : Int) (o : List Int × Int), f77_l2 u_lo u_n v l0 c j = some o → o.1.length = l0.length := by
  refine f77_l2.partial_correctness u_lo u_n v _ ?_
  intro lp ih l0 c j o h
  split at h
  · obtain ⟨_, _, h⟩ := bind_some h
    obtain ⟨_, _, h⟩ := bind_some h
    obtain ⟨_, _, h⟩ := bind_some h
    have := ih _ _ _ _ h
    simpa only [setO_len] using this
  · cases h; rfl
theorem f77_len (u : List Int) (u_lo u_n : Nat) (v : List Int) (r : Int × List Int) (h : f77 u u_lo u_n v = some r) : r.2.length = u.length := by
  unfold f77 at h
  obtain ⟨_, _, h⟩ := bind_some h
  obtain ⟨_, _, h⟩ := bind_some h
  obtain ⟨_, _, h⟩ := bind_some h
  obtain ⟨_, _, h⟩ := bind_some h
  obtain ⟨_, _, h⟩ := bind_some h
  obtain ⟨_, _, h⟩ := bind_some h
  obtain ⟨_, _, h⟩ := bind_some h
  obtain ⟨o14, h14, h⟩ := bind_some h
  have h1 := f77_l1_len _ _ _ _ _ _ _ _ _ h14
  obtain ⟨_, _, h⟩ := bind_some h
  obtain ⟨_, _, h⟩ := bind_some h
  obtain ⟨_, _, h⟩ := bind_some h
  split at h
  · cases h; simpa only [setO_len] using h1
  · obtain ⟨o25, h25, h⟩ := bind_some h
    have h2 := f77_l2_len _ _ _ _ _ _ _ h25
    obtain ⟨_, _, h⟩ := bind_some h
    obtain ⟨_, _, h⟩ := bind_some h
    cases h
    simp only [setO_len] at h2 ⊢
    omega

end Go.Bx.Scan

/- sibyl/nats.QuoRem, printed by pf.py. (Own text.) -/
namespace Go.Bx.Scan
set_option linter.unusedVariables false
set_option linter.unusedSimpArgs false
set_option linter.unusedSectionVars false
open Go.Proofs
set_option linter.unusedSimpArgs false
set_option linter.unusedVariables false
set_option maxRecDepth 10000
def f65_l0 (r12 : List Int) (u : List Int) (q : List Int) (j : Int) : Option ((List Int) × (List Int)) :=
  if (decide (j ≥ 0)) = true then
    (cutL u j (IntKind.i64.wrap ((IntKind.i64.wrap (j + (r12.length : Int))) + 1)) >>= fun p20 =>
    f77 u ((j).toNat) ((IntKind.i64.wrap ((IntKind.i64.wrap (j + (r12.length : Int))) + 1)).toNat - (j).toNat) r12 >>= fun r21 =>
    rd q j >>= fun e22 =>
    f65_l0 r12 r21.2 (setL q j r21.1) (IntKind.i64.wrap (j - 1)))
  else
    some (u, q)
  partial_fixpoint

/-- sibyl/nats.QuoRem -/
def f65 (a : List Int) (b : List Int) : Option ((List Int) × (List Int)) :=
  f72 a >>= fun r1 =>
  f72 b >>= fun r2 =>
  f73 r1 r2 >>= fun r3 =>
  if (decide (r3 < 0)) = true then
    (f62 r1 >>= fun r5 =>
    some ([], r5))
  else
    if ((r2.length : Int) == 1) = true then
      (rd r2 0 >>= fun e7 =>
      f74 r1 e7 >>= fun r8 =>
      f72 [r8.2] >>= fun r9 =>
      some (r8.1, r9))
    else
      rd r2 (IntKind.i64.wrap ((r2.length : Int) - 1)) >>= fun e10 =>
      f75 e10 >>= fun r11 =>
      f76 r2 r11 >>= fun r12 =>
      mk 4 (IntKind.i64.wrap ((r1.length : Int) + 1)) 0 >>= fun m13 =>
      f76 r1 r11 >>= fun r14 =>
      cpy m13 r14 >>= fun k15 =>
      mk 4 (IntKind.i64.wrap ((IntKind.i64.wrap ((r1.length : Int) - (r2.length : Int))) + 1)) 0 >>= fun m16 =>
      some (IntKind.i64.wrap ((m16.length : Int) - 1)) >>= fun x17 =>
      f65_l0 r12 k15 m16 x17 >>= fun o18 =>
      f72 o18.2 >>= fun r23 =>
      f78 o18.1 r11 >>= fun r24 =>
      some (r23, r24)

noncomputable def f65_ci : CI := (CI.or 72 f72_tbl (CI.or 73 f73_tbl (CI.or 62 f62_tbl (CI.or 74 f74_tbl (CI.or 75 f75_tbl (CI.or 76 f76_tbl (CI.or 78 f78_tbl (fun _ _ _ => none))))))))
theorem f65_ci_ok (base : Nat) : CIOK E base f65_ci := (or_ok f72_tbl_ok (or_ok f73_tbl_ok (or_ok f62_tbl_ok (or_ok f74_tbl_ok (or_ok f75_tbl_ok (or_ok f76_tbl_ok (or_ok f78_tbl_ok no_ok)))))))
theorem f65_res : Try.f65.results = #[.tmp 4, .tmp 5] := rfl
theorem f65_rt : Try.f65.resultTypes = #[36, 36] := rfl

set_option maxHeartbeats 4000000 in
theorem f65_l0_ok {base : Nat} {c00 : Ctx} (r12 : List Int) (r11 : Int) (hU : Under E base c00 nilStore) : ∀ (u : List Int) (q : List Int) (j : Int) (o18 : (List Int) × (List Int)), f65_l0 r12 u q j = some o18 →
    WpL E base c00 nilStore (lb Try.f65 0) ⟨jj 8 (.v (.int .i64 r11) :: .sl (List.map (cInt .u32) r12) :: .row 0 1 0 ((u).length) :: .row 1 1 0 ((q).length) :: .v (.int .i64 j) :: jj 76 []), St [some ⟨1, false, true, List.map (cInt .u32) u⟩, some ⟨1, false, true, List.map (cInt .u32) q⟩], none, 0⟩ (fun ex s1 => ex = .exit 0 ∧ Wk base c00 nilStore s1 ⟨jj 8 (.v (.int .i64 r11) :: jj 1 (.row 0 1 0 ((o18.1).length) :: .row 1 1 0 ((o18.2).length) :: jj 77 [])), St [some ⟨1, false, true, List.map (cInt .u32) o18.1⟩, some ⟨1, false, true, List.map (cInt .u32) o18.2⟩], none, 0⟩) := by
  refine f65_l0.partial_correctness r12 _ ?_
  intro lp__ ih u q j o18 h
  refine WpL.stepE (by simp only [Try.f65, lb, Option.getD_some, loopsOf, List.nil_append, List.append_nil, List.cons_append, List.getElem?_cons_zero, List.getElem?_cons_succ] <;> rfl) ?_
  refine Wp.seq <| Wp.seq <| Wp.region hU (f65_ci_ok _) rgI <| thenN <| ?_
  refine Wp.cond hU (t := decide (j ≥ 0)) rfl (fun hc19 => ?_) (fun hc19 => ?_)
  · rw [if_t hc19] at h
    refine Wp.skip <| thenN <| Wp.seq <| Wp.block <| ?_
    obtain ⟨p20, hp20, h⟩ := bind_some h
    obtain ⟨hp20a, hp20b, hp20c, hp20d, hp20e, hp20f⟩ := cutL_some hp20
    try simp only [Int.toNat_natCast] at hp20c hp20d
    try simp only [Int.toNat_natCast, Int.toNat_zero, List.drop_zero, Nat.sub_zero] at hp20e hp20f
    obtain ⟨r21, hr21, h⟩ := bind_some h
    have hr21c : CallOK E base 77 [.row 0 1 ((j).toNat) ((IntKind.i64.wrap ((IntKind.i64.wrap (j + (r12.length : Int))) + 1)).toNat - (j).toNat), .sl (List.map (cInt .u32) r12)] (St [some ⟨1, false, true, List.map (cInt .u32) u⟩, some ⟨1, false, true, List.map (cInt .u32) q⟩]) (.v (.int .u32 r21.1)) (St [some ⟨1, false, true, List.map (cInt .u32) r21.2⟩, some ⟨1, false, true, List.map (cInt .u32) q⟩]) (some 0) := (f77_ok u ((j).toNat) ((IntKind.i64.wrap ((IntKind.i64.wrap (j + (r12.length : Int))) + 1)).toNat - (j).toNat) r12 r21 hr21).at [0] 0 rfl ⟨rfl, trivial⟩ rfl rfl rfl
    have hr21l := f77_len u ((j).toNat) ((IntKind.i64.wrap ((IntKind.i64.wrap (j + (r12.length : Int))) + 1)).toNat - (j).toNat) r12 r21 hr21
    obtain ⟨e22, he22, h⟩ := bind_some h
    obtain ⟨he22a, he22b, he22c⟩ := rd_some he22
    have fx := i9 hp20a hp20b hp20c hp20d hp20e.symm he22a he22b he22c hc19
    refine Wp.region hU (rone_ok hr21c (f65_ci_ok _)) rgIS <| blkN <| thenN <| ?_
    refine Wk.wp (s2 := ⟨jj 8 (.v (.int .i64 r11) :: .sl (List.map (cInt .u32) r12) :: .row 0 1 0 ((r21.2).length) :: .row 1 1 0 ((setL q j r21.1).length) :: .v (.int .i64 j) :: jj 76 []), St [some ⟨1, false, true, List.map (cInt .u32) r21.2⟩, some ⟨1, false, true, List.map (cInt .u32) (setL q j r21.1)⟩], none, 0⟩) ?_ ?_
    · refine Wk.weak hU [some 0, some 1] _ (by decide) ?_ ?_
      · refine .obj rfl ?_ ?_
        · have fe := i2 hp20e hr21l
          have fl := nofx
          have fv := nofx
          exact woIF
        refine .obj rfl ?_ ?_
        · have fe := i2 hp20e hr21l
          have fl := nofx
          have fv := nofx
          exact woIF
        exact .nil
      · have fe := i2 hp20e hr21l
        have fl := i2 hr21l hp20f
        have fv := i3 hp20e hp20c hp20d
        exact wvIF
    have fx := i5 hp20a hp20b hp20c hp20d hc19
    refine Wp.region hU (f65_ci_ok _) rgIS <| againN <| ?_
    refine Wk.wpL ?_ (ih r21.2 (setL q j r21.1) (IntKind.i64.wrap (j - 1)) _ h)
    refine Wk.weak hU [some 0, some 1] _ (by decide) ?_ ?_
    · refine .obj rfl ?_ ?_
      · have fe := i2 hp20e hr21l
        have fl := nofx
        have fv := nofx
        exact woIF
      refine .obj rfl ?_ ?_
      · have fe := i2 hp20e hr21l
        have fl := nofx
        have fv := nofx
        exact woIF
      exact .nil
    · have fe := i2 hp20e hr21l
      have fl := i2 hr21l hp20f
      have fv := i3 hp20e hp20c hp20d
      exact wvIF
  · rw [if_f hc19] at h
    refine Wp.exit <| thenE <| againE <| ?_
    obtain rfl := Option.some.inj h
    refine ⟨rfl, ?_⟩
    refine Wk.weak hU [some 0, some 1] _ (by decide) ?_ ?_
    · refine .obj rfl ?_ ?_
      · exact woI
      refine .obj rfl ?_ ?_
      · exact woI
      exact .nil
    · exact wvI

set_option maxHeartbeats 4000000 in
theorem f65_ok (a : List Int) (b : List Int) (r : (List Int) × (List Int)) (h : f65 a b = some r) : PureOK E 65 [.sl (List.map (cInt .u32) a), .sl (List.map (cInt .u32) b)] (.tup [.sl (List.map (cInt .u32) r.1), .sl (List.map (cInt .u32) r.2)]) := by
  unfold f65 at h
  refine pure_of_wp tabOK mixed (fn := Try.f65) (nt := 89) Try.func65 rfl rfl (names _ _ Try.func65) rfl rfl (fun _ => rfl) (fun base c00 hU => ?_)
  refine Wk.wp (s2 := ⟨.sl (List.map (cInt .u32) a) :: .sl (List.map (cInt .u32) b) :: jj 87 [], St [], none, 0⟩) ?_ ?_
  · refine Wk.weak hU [] _ (by decide) .nil ?_
    simp only [jjs, List.length_cons, List.length_nil, Nat.reduceAdd, Nat.reduceSub, List.replicate, List.cons_append, List.nil_append]
    repeat' (first | exact WVs.nil | refine WVs.cons ?_ ?_)
    all_goals first | exact WV.junk _ | exact WV.keep rfl | exact .agg rfl (aggKeep rfl)
  refine Wp.seq <| Wp.region hU (f65_ci_ok _) rgI <| thenN <| Wp.seq <| ?_
  obtain ⟨r1, hr1, h⟩ := bind_some h
  have hr1c : ∀ σ, f65_ci 72 [.sl (List.map (cInt .u32) a)] σ = some (.sl (List.map (cInt .u32) r1), σ, none) := fun σ => f72_call hr1 σ
  obtain ⟨r2, hr2, h⟩ := bind_some h
  have hr2c : ∀ σ, f65_ci 72 [.sl (List.map (cInt .u32) b)] σ = some (.sl (List.map (cInt .u32) r2), σ, none) := fun σ => f72_call hr2 σ
  have fx := i2 hr1c hr2c
  refine Wp.region hU (f65_ci_ok _) rgIF <| thenN <| Wp.seq <| Wp.seq <| ?_
  obtain ⟨r3, hr3, h⟩ := bind_some h
  have hr3c : ∀ σ, f65_ci 73 [.sl (List.map (cInt .u32) r1), .sl (List.map (cInt .u32) r2)] σ = some (.v (.int .i64 r3), σ, none) := fun σ => f73_call hr3 σ
  have fx := hr3c
  refine Wp.region hU (f65_ci_ok _) rgIF <| thenN <| ?_
  refine Wp.cond hU (t := decide (r3 < 0)) rfl (fun hc4 => ?_) (fun hc4 => ?_)
  · rw [if_t hc4] at h
    refine Wp.seq <| ?_
    obtain ⟨r5, hr5, h⟩ := bind_some h
    have hr5c : ∀ σ, f65_ci 62 [.sl (List.map (cInt .u32) r1)] σ = some (.own false 1 (List.map (cInt .u32) r5), σ, none) := fun σ => f62_call hr5 σ
    have fx := i2 hr5c hc4
    refine Wp.region hU (f65_ci_ok _) rgIF <| thenN <| Wp.ret <| thenR <| ?_
    obtain rfl := Option.some.inj h
    refine ⟨.inl rfl, ?_⟩
    refine Rt.wk (s2 := ⟨jj 4 (.sl (List.map (cInt .u32) []) :: .sl (List.map (cInt .u32) r5) :: jj 83 []), St [], none, 0⟩) ?_ (Rt.of ?_)
    · refine Wk.share hU [0] ?_
      simp (decide := true) only [share, fresh1, reduceIte, reduceCtorEq, Nat.reduceAdd, bxm]
      refine Wk.weak hU [] _ (by decide) ?_ ?_
      · exact .nil
      · exact wvI
    have fx := i2 f65_res f65_rt
    exact rtI
  · rw [if_f hc4] at h
    refine Wp.skip <| thenN <| Wp.seq <| Wp.seq <| ?_
    have fx := hc4
    refine Wp.region hU (f65_ci_ok _) rgIF <| thenN <| ?_
    refine Wp.cond hU (t := (r2.length : Int) == 1) rfl (fun hc6 => ?_) (fun hc6 => ?_)
    · rw [if_t hc6] at h
      refine Wp.seq <| ?_
      obtain ⟨e7, he7, h⟩ := bind_some h
      obtain ⟨he7a, he7b, he7c⟩ := rd_some he7
      obtain ⟨r8, hr8, h⟩ := bind_some h
      have hr8c : ∀ σ, f65_ci 74 [.sl (List.map (cInt .u32) r1), .v (.int .u32 e7)] σ = some (.tup [.sl (List.map (cInt .u32) r8.1), .v (.int .u32 r8.2)], σ, none) := fun σ => f74_call hr8 σ
      have fx := i6 he7a he7b he7c hr8c hc4 hc6
      refine Wp.region hU (f65_ci_ok _) rgIF <| thenN <| Wp.seq <| ?_
      obtain ⟨r9, hr9, h⟩ := bind_some h
      have hr9c : ∀ σ, f65_ci 72 [.sl (List.map (cInt .u32) [r8.2])] σ = some (.sl (List.map (cInt .u32) r9), σ, none) := fun σ => f72_call hr9 σ
      try simp only [List.map_cons, List.map_nil, cInt_eq, cBool_eq, cStr_eq, cSl_eq, tys] at hr9c
      have fx := i3 hr9c hc4 hc6
      refine Wp.region hU (f65_ci_ok _) rgIF <| thenN <| Wp.ret <| thenR <| ?_
      obtain rfl := Option.some.inj h
      refine ⟨.inl rfl, ?_⟩
      refine Rt.of <| ?_
      have fx := i2 f65_res f65_rt
      exact rtI
    · rw [if_f hc6] at h
      refine Wp.skip <| thenN <| Wp.seq <| ?_
      obtain ⟨e10, he10, h⟩ := bind_some h
      obtain ⟨he10a, he10b, he10c⟩ := rd_some he10
      obtain ⟨r11, hr11, h⟩ := bind_some h
      have hr11c : ∀ σ, f65_ci 75 [.v (.int .u32 e10)] σ = some (.v (.int .i64 r11), σ, none) := fun σ => f75_call hr11 σ
      have fx := i6 he10a he10b he10c hr11c hc4 hc6
      refine Wp.region hU (f65_ci_ok _) rgIF <| thenN <| Wp.seq <| ?_
      obtain ⟨r12, hr12, h⟩ := bind_some h
      have hr12c : ∀ σ, f65_ci 76 [.sl (List.map (cInt .u32) r2), .v (.int .i64 r11)] σ = some (.sl (List.map (cInt .u32) r12), σ, none) := fun σ => f76_call hr12 σ
      have fx := i3 hr12c hc4 hc6
      refine Wp.region hU (f65_ci_ok _) rgIF <| thenN <| Wp.seq <| ?_
      obtain ⟨m13, hm13, h⟩ := bind_some h
      obtain ⟨hm13a, hm13b, hm13c, hm13d⟩ := mk_some hm13
      have fx := i5 hm13a hm13b hm13c hc4 hc6
      refine Wp.region hU (f65_ci_ok _) rgIF <| thenN <| ?_
      refine Wk.wp (s2 := ⟨.sl (List.map (cInt .u32) r1) :: .sl (List.map (cInt .u32) r2) :: jj 6 (.v (.int .i64 r11) :: .sl (List.map (cInt .u32) r12) :: .row 0 1 0 ((m13).length) :: jj 78 []), St [some ⟨1, false, true, List.map (cInt .u32) m13⟩], none, 0⟩) ?_ ?_
      · refine Wk.weak hU [some 0] _ (by decide) ?_ ?_
        · refine .obj rfl ?_ ?_
          · have fe := hm13d
            have fl := nofx
            have fv := nofx
            exact woIF
          exact .nil
        · have fe := hm13d
          have fl := hm13d
          have fv := nofx
          exact wvIF
      refine Wp.seq <| ?_
      obtain ⟨r14, hr14, h⟩ := bind_some h
      have hr14c : ∀ σ, f65_ci 76 [.sl (List.map (cInt .u32) r1), .v (.int .i64 r11)] σ = some (.sl (List.map (cInt .u32) r14), σ, none) := fun σ => f76_call hr14 σ
      obtain ⟨k15, hk15, h⟩ := bind_some h
      obtain ⟨hk15a, hk15b⟩ := cpy_some hk15
      have hk15c := congrArg List.length hk15b
      rw [List.length_append, List.length_drop, Nat.add_sub_of_le hk15a] at hk15c
      refine Wp.regionCopy hU (f65_ci_ok _) rfl rfl (by simp (decide := true) (disch := (first | omega | (simp only [List.length_append, List.length_map, List.length_cons, List.length_nil]; omega))) only [evOp, putTm, jjs, E_T, E_gl, brs, tdesc, reduceIte, reduceCtorEq, Nat.reduceAdd, Nat.reduceSub, Nat.reduceLT, Nat.reduceLeDiff, Nat.reduceEqDiff, bxm, bxk, tabs, evCall, lendL, lendIds, mapO, importL, import2L, import1, import2, share, fresh1, freshL, hr14c, hc4, hc6, tys, List.dropLast]; rfl) rfl rfl rfl rfl rfl rfl rfl (by simp only [List.length_map]) rfl (len_cInt _ _) (all_pl' (fun _ => rfl) _) (by simp only [List.length_map]; omega) <| thenN <| ?_
      try simp only [bxm]
      refine Wk.wp (s2 := ⟨.sl (List.map (cInt .u32) r1) :: .sl (List.map (cInt .u32) r2) :: jj 6 (.v (.int .i64 r11) :: .sl (List.map (cInt .u32) r12) :: .row 0 1 0 ((k15).length) :: jj 78 []), St [some ⟨1, false, true, List.map (cInt .u32) k15⟩], none, 0⟩) ?_ ?_
      · refine Wk.weak hU [some 0] _ (by decide) ?_ ?_
        · refine .obj rfl ?_ ?_
          · have fe := i2 hm13d hk15b
            have fl := nofx
            have fv := nofx
            exact woIF
          exact .nil
        · have fe := i2 hm13d hk15b
          have fl := i2 hm13d hk15c
          have fv := nofx
          exact wvIF
      refine Wp.seq <| ?_
      obtain ⟨m16, hm16, h⟩ := bind_some h
      obtain ⟨hm16a, hm16b, hm16c, hm16d⟩ := mk_some hm16
      have fx := i5 hm16a hm16b hm16c hc4 hc6
      refine Wp.region hU (f65_ci_ok _) rgIF <| thenN <| ?_
      refine Wk.wp (s2 := ⟨jj 8 (.v (.int .i64 r11) :: .sl (List.map (cInt .u32) r12) :: .row 0 1 0 ((k15).length) :: .row 1 1 0 ((m16).length) :: jj 77 []), St [some ⟨1, false, true, List.map (cInt .u32) k15⟩, some ⟨1, false, true, List.map (cInt .u32) m16⟩], none, 0⟩) ?_ ?_
      · refine Wk.weak hU [some 0, some 1] _ (by decide) ?_ ?_
        · refine .obj rfl ?_ ?_
          · have fe := i3 hm13d hk15b hm16d
            have fl := nofx
            have fv := nofx
            exact woIF
          refine .obj rfl ?_ ?_
          · have fe := i3 hm13d hk15b hm16d
            have fl := nofx
            have fv := nofx
            exact woIF
          exact .nil
        · have fe := i3 hm13d hk15b hm16d
          have fl := i3 hm13d hk15c hm16d
          have fv := nofx
          exact wvIF
      refine Wp.seq <| Wp.seq <| ?_
      obtain ⟨x17, hx17, h⟩ := bind_some h
      replace hx17 := Option.some.inj hx17
      have fx := i3 hx17 hc4 hc6
      refine Wp.region hU (f65_ci_ok _) rgIF <| thenN <| Wp.block <| ?_
      obtain ⟨o18, ho18, h⟩ := bind_some h
      refine Wp.loop <| ?_
      refine Tw.mono (Wk.wpL (s2 := ⟨jj 8 (.v (.int .i64 r11) :: .sl (List.map (cInt .u32) r12) :: .row 0 1 0 ((k15).length) :: .row 1 1 0 ((m16).length) :: .v (.int .i64 x17) :: jj 76 []), St [some ⟨1, false, true, List.map (cInt .u32) k15⟩, some ⟨1, false, true, List.map (cInt .u32) m16⟩], none, 0⟩) ?_ (f65_l0_ok r12 r11 hU k15 m16 x17 o18 ho18)) (fun ex s1 hp => ?_)
      · refine Wk.weak hU [some 0, some 1] _ (by decide) ?_ ?_
        · refine .obj rfl ?_ ?_
          · have fe := i3 hm13d hk15b hm16d
            have fl := nofx
            have fv := nofx
            exact woIF
          refine .obj rfl ?_ ?_
          · have fe := i3 hm13d hk15b hm16d
            have fl := nofx
            have fv := nofx
            exact woIF
          exact .nil
        · have fe := i3 hm13d hk15b hm16d
          have fl := i3 hm13d hk15c hm16d
          have fv := nofx
          exact wvIF
      · obtain ⟨rfl, hp⟩ := hp
        refine blkE <| thenN <| hp.wp <| Wp.seq <| ?_
        obtain ⟨r23, hr23, h⟩ := bind_some h
        have hr23c : ∀ σ, f65_ci 72 [.sl (List.map (cInt .u32) o18.2)] σ = some (.sl (List.map (cInt .u32) r23), σ, none) := fun σ => f72_call hr23 σ
        obtain ⟨r24, hr24, h⟩ := bind_some h
        have hr24c : ∀ σ, f65_ci 78 [.sl (List.map (cInt .u32) o18.1), .v (.int .i64 r11)] σ = some (.sl (List.map (cInt .u32) r24), σ, none) := fun σ => f78_call hr24 σ
        have fx := i4 hr23c hr24c hc4 hc6
        refine Wp.region hU (f65_ci_ok _) rgIF <| thenN <| Wp.ret <| ?_
        obtain rfl := Option.some.inj h
        refine ⟨.inl rfl, ?_⟩
        refine Rt.of <| ?_
        have fx := i5 f65_res f65_rt hm13d hk15b hm16d
        exact rtI

noncomputable def f65_tbl : CI := tbl 65 (fun p : (List Int) × (List Int) => [.sl (List.map (cInt .u32) p.1), .sl (List.map (cInt .u32) p.2)]) (fun p => (f65 p.1 p.2).map fun r => .tup [.sl (List.map (cInt .u32) r.1), .sl (List.map (cInt .u32) r.2)])
theorem f65_tbl_ok {base : Nat} : CIOK E base f65_tbl := tbl_ok fun p r h => by obtain ⟨q, hq, rfl⟩ := Option.map_eq_some_iff.1 h; exact f65_ok p.1 p.2 q hq
theorem f65_call {a : List Int} {b : List Int} {r : (List Int) × (List Int)} (h : f65 a b = some r) (σ : Store) : f65_tbl 65 [.sl (List.map (cInt .u32) a), .sl (List.map (cInt .u32) b)] σ = some (.tup [.sl (List.map (cInt .u32) r.1), .sl (List.map (cInt .u32) r.2)], σ, none) :=
  tbl_eq (x := (a, b)) (fun x y e => by
    obtain ⟨x0, x1⟩ := x; obtain ⟨y0, y1⟩ := y
    have e0 := av_sl inj_int (List.cons.inj e).1
    have e1 := av_sl inj_int (List.cons.inj (List.cons.inj e).2).1
    subst e0 e1; rfl) (by simp [h]) σ
end Go.Bx.Scan

/- sibyl/nats.Gcd, printed by pf.py. (Own text.) -/
namespace Go.Bx.Scan
set_option linter.unusedVariables false
set_option linter.unusedSimpArgs false
set_option linter.unusedSectionVars false
open Go.Proofs
set_option linter.unusedSimpArgs false
set_option linter.unusedVariables false
set_option maxRecDepth 10000
def f63_l0 (a_1 : List Int) (b_1 : List Int) : Option ((List Int)) :=
  if (decide ((b_1.length : Int) > 0)) = true then
    (f65 a_1 b_1 >>= fun r5 =>
    f63_l0  b_1 r5.2)
  else
    some a_1
  partial_fixpoint

/-- sibyl/nats.Gcd -/
def f63 (a : List Int) (b : List Int) : Option (List Int) :=
  f62 a >>= fun r1 =>
  f62 b >>= fun r2 =>
  f63_l0 r1 r2 >>= fun o3 =>
  f62 o3 >>= fun r6 =>
  some r6

noncomputable def f63_ci : CI := (CI.or 62 f62_tbl (CI.or 65 f65_tbl (fun _ _ _ => none)))
theorem f63_ci_ok (base : Nat) : CIOK E base f63_ci := (or_ok f62_tbl_ok (or_ok f65_tbl_ok no_ok))
theorem f63_res : Try.f63.results = #[.tmp 4] := rfl
theorem f63_rt : Try.f63.resultTypes = #[36] := rfl

set_option maxHeartbeats 4000000 in
theorem f63_l0_ok {base : Nat} {c00 : Ctx}  (hU : Under E base c00 nilStore) : ∀ (a_1 : List Int) (b_1 : List Int) (o3 : (List Int)), f63_l0  a_1 b_1 = some o3 →
    WpL E base c00 nilStore (lb Try.f63 0) ⟨.sl (List.map (cInt .u32) a_1) :: .sl (List.map (cInt .u32) b_1) :: jj 22 [], St [], none, 0⟩ (fun ex s1 => ex = .exit 0 ∧ Wk base c00 nilStore s1 ⟨.sl (List.map (cInt .u32) o3) :: jj 23 [], St [], none, 0⟩) := by
  refine f63_l0.partial_correctness  (fun a_1 b_1 o3 => WpL E base c00 nilStore (lb Try.f63 0) ⟨.sl (List.map (cInt .u32) a_1) :: .sl (List.map (cInt .u32) b_1) :: jj 22 [], St [], none, 0⟩ (fun ex s1 => ex = .exit 0 ∧ Wk base c00 nilStore s1 ⟨.sl (List.map (cInt .u32) o3) :: jj 23 [], St [], none, 0⟩)) ?_
  intro lp__ ih a_1 b_1 o3 h
  refine WpL.stepE (by simp only [Try.f63, lb, Option.getD_some, loopsOf, List.nil_append, List.append_nil, List.cons_append, List.getElem?_cons_zero, List.getElem?_cons_succ] <;> rfl) ?_
  refine Wp.seq <| Wp.seq <| Wp.region hU (f63_ci_ok _) rgI <| thenN <| ?_
  refine Wp.cond hU (t := decide ((b_1.length : Int) > 0)) rfl (fun hc4 => ?_) (fun hc4 => ?_)
  · rw [if_t hc4] at h
    refine Wp.skip <| thenN <| Wp.block <| Wp.seq <| ?_
    obtain ⟨r5, hr5, h⟩ := bind_some h
    have hr5c : ∀ σ, f63_ci 65 [.sl (List.map (cInt .u32) a_1), .sl (List.map (cInt .u32) b_1)] σ = some (.tup [.sl (List.map (cInt .u32) r5.1), .sl (List.map (cInt .u32) r5.2)], σ, none) := fun σ => f65_call hr5 σ
    have fx := i2 hr5c hc4
    refine Wp.region hU (f63_ci_ok _) rgIF <| thenN <| ?_
    have fx := hc4
    refine Wp.region hU (f63_ci_ok _) rgIF <| blkN <| againN <| ?_
    refine Wk.wpL ?_ (ih b_1 r5.2 _ h)
    refine Wk.weak hU [] _ (by decide) ?_ ?_
    · exact .nil
    · exact wvI
  · rw [if_f hc4] at h
    refine Wp.exit <| thenE <| againE <| ?_
    obtain rfl := Option.some.inj h
    refine ⟨rfl, ?_⟩
    refine Wk.weak hU [] _ (by decide) ?_ ?_
    · exact .nil
    · exact wvI

set_option maxHeartbeats 4000000 in
theorem f63_ok (a : List Int) (b : List Int) (r : List Int) (h : f63 a b = some r) : PureOK E 63 [.sl (List.map (cInt .u32) a), .sl (List.map (cInt .u32) b)] (.own false 1 (List.map (cInt .u32) r)) := by
  unfold f63 at h
  refine pure_of_wp tabOK mixed (fn := Try.f63) (nt := 24) Try.func63 rfl rfl (names _ _ Try.func63) rfl rfl (fun _ => rfl) (fun base c00 hU => ?_)
  refine Wk.wp (s2 := ⟨.sl (List.map (cInt .u32) a) :: .sl (List.map (cInt .u32) b) :: jj 22 [], St [], none, 0⟩) ?_ ?_
  · refine Wk.weak hU [] _ (by decide) .nil ?_
    simp only [jjs, List.length_cons, List.length_nil, Nat.reduceAdd, Nat.reduceSub, List.replicate, List.cons_append, List.nil_append]
    repeat' (first | exact WVs.nil | refine WVs.cons ?_ ?_)
    all_goals first | exact WV.junk _ | exact WV.keep rfl | exact .agg rfl (aggKeep rfl)
  refine Wp.seq <| Wp.region hU (f63_ci_ok _) rgI <| thenN <| Wp.seq <| ?_
  obtain ⟨r1, hr1, h⟩ := bind_some h
  have hr1c : ∀ σ, f63_ci 62 [.sl (List.map (cInt .u32) a)] σ = some (.own false 1 (List.map (cInt .u32) r1), σ, none) := fun σ => f62_call hr1 σ
  obtain ⟨r2, hr2, h⟩ := bind_some h
  have hr2c : ∀ σ, f63_ci 62 [.sl (List.map (cInt .u32) b)] σ = some (.own false 1 (List.map (cInt .u32) r2), σ, none) := fun σ => f62_call hr2 σ
  have fx := i2 hr1c hr2c
  refine Wp.region hU (f63_ci_ok _) rgIF <| thenN <| Wp.seq <| Wp.block <| ?_
  obtain ⟨o3, ho3, h⟩ := bind_some h
  refine Wp.loop <| ?_
  refine Tw.mono (Wk.wpL (s2 := ⟨.sl (List.map (cInt .u32) r1) :: .sl (List.map (cInt .u32) r2) :: jj 22 [], St [], none, 0⟩) ?_ (f63_l0_ok  hU r1 r2 o3 ho3)) (fun ex s1 hp => ?_)
  · refine Wk.share hU [0, 1] ?_
    simp (decide := true) only [share, fresh1, reduceIte, reduceCtorEq, Nat.reduceAdd, bxm]
    refine Wk.weak hU [] _ (by decide) ?_ ?_
    · exact .nil
    · exact wvI
  · obtain ⟨rfl, hp⟩ := hp
    refine blkE <| thenN <| hp.wp <| Wp.seq <| ?_
    obtain ⟨r6, hr6, h⟩ := bind_some h
    have hr6c : ∀ σ, f63_ci 62 [.sl (List.map (cInt .u32) o3)] σ = some (.own false 1 (List.map (cInt .u32) r6), σ, none) := fun σ => f62_call hr6 σ
    have fx := hr6c
    refine Wp.region hU (f63_ci_ok _) rgIF <| thenN <| Wp.ret <| ?_
    obtain rfl := Option.some.inj h
    refine ⟨.inl rfl, ?_⟩
    refine Rt.of <| ?_
    have fx := i2 f63_res f63_rt
    exact rtI

noncomputable def f63_tbl : CI := tbl 63 (fun p : (List Int) × (List Int) => [.sl (List.map (cInt .u32) p.1), .sl (List.map (cInt .u32) p.2)]) (fun p => (f63 p.1 p.2).map fun r => .own false 1 (List.map (cInt .u32) r))
theorem f63_tbl_ok {base : Nat} : CIOK E base f63_tbl := tbl_ok fun p r h => by obtain ⟨q, hq, rfl⟩ := Option.map_eq_some_iff.1 h; exact f63_ok p.1 p.2 q hq
theorem f63_call {a : List Int} {b : List Int} {r : List Int} (h : f63 a b = some r) (σ : Store) : f63_tbl 63 [.sl (List.map (cInt .u32) a), .sl (List.map (cInt .u32) b)] σ = some (.own false 1 (List.map (cInt .u32) r), σ, none) :=
  tbl_eq (x := (a, b)) (fun x y e => by
    obtain ⟨x0, x1⟩ := x; obtain ⟨y0, y1⟩ := y
    have e0 := av_sl inj_int (List.cons.inj e).1
    have e1 := av_sl inj_int (List.cons.inj (List.cons.inj e).2).1
    subst e0 e1; rfl) (by simp [h]) σ
end Go.Bx.Scan

/- sibyl/nats.Push, printed by pf.py. (Own text.) -/
namespace Go.Bx.Scan
set_option linter.unusedVariables false
set_option linter.unusedSimpArgs false
set_option linter.unusedSectionVars false
open Go.Proofs
set_option linter.unusedSimpArgs false
set_option linter.unusedVariables false
set_option maxRecDepth 10000
def f61_l0 (a : List Int) (l0 : List Int) (c : Int) (v : Int) : Option ((List Int) × Int) :=
  if (decide (v < (a.length : Int))) = true then
    (rd l0 v >>= fun e3 =>
    some (IntKind.u64.wrap ((IntKind.u64.wrap ((IntKind.u64.wrap e3) * 10)) + c)) >>= fun x4 =>
    rd l0 v >>= fun e5 =>
    f61_l0 a (setL l0 v (IntKind.u32.wrap x4)) (shrI .u64 x4 32) (IntKind.i64.wrap (v + 1)))
  else
    some (l0, c)
  partial_fixpoint

/-- sibyl/nats.Push -/
def f61 (a : List Int) (d : Int) : Option (List Int) :=
  f61_l0 a a (IntKind.u64.wrap d) 0 >>= fun o1 =>
  if (decide (o1.2 > 0)) = true then
    (ap 4 o1.1 [IntKind.u32.wrap o1.2] >>= fun a7 =>
    some a7)
  else
    some o1.1

theorem f61_res : Try.f61.results = #[.tmp 4] := rfl

def f61_S (a : List Int) (d : Int) : List (Option Obj) := [some ⟨1, false, true, List.map (cInt .u32) a⟩]
set_option maxHeartbeats 4000000 in
theorem f61_l0_ok {base : Nat} {c00 : Ctx} (a : List Int) (d : Int) (hU : Under E base c00 (St (f61_S a d))) : ∀ (l0 : List Int) (c : Int) (v : Int) (o1 : (List Int) × Int), f61_l0 a l0 c v = some o1 →
    WpL E base c00 (St (f61_S a d)) (lb Try.f61 0) ⟨.row 0 1 0 ((l0).length) :: jj 4 (.v (.int .u64 c) :: jj 5 (.v (.int .i64 (a.length : Int)) :: .v (.int .i64 v) :: jj 26 [])), St [some ⟨1, false, true, List.map (cInt .u32) l0⟩], some 0, 1⟩ (fun ex s1 => ex = .exit 0 ∧ Wk base c00 (St (f61_S a d)) s1 ⟨.row 0 1 0 ((o1.1).length) :: jj 4 (.v (.int .u64 o1.2) :: jj 33 []), St [some ⟨1, false, true, List.map (cInt .u32) o1.1⟩], some 0, 1⟩) := by
  refine f61_l0.partial_correctness a _ ?_
  intro lp__ ih l0 c v o1 h
  refine WpL.stepE (by simp only [Try.f61, lb, Option.getD_some, loopsOf, List.nil_append, List.append_nil, List.cons_append, List.getElem?_cons_zero, List.getElem?_cons_succ] <;> rfl) ?_
  refine Wp.seq <| Wp.region hU no_ok rgI <| thenN <| Wp.seq <| ?_
  refine Wp.cond hU (t := decide (v < (a.length : Int))) rfl (fun hc2 => ?_) (fun hc2 => ?_)
  · rw [if_t hc2] at h
    refine Wp.skip <| thenN <| Wp.seq <| Wp.block <| Wp.seq <| ?_
    have fx := hc2
    refine Wp.region hU no_ok rgIF <| thenN <| Wp.seq <| ?_
    obtain ⟨e3, he3, h⟩ := bind_some h
    obtain ⟨he3a, he3b, he3c⟩ := rd_some he3
    obtain ⟨x4, hx4, h⟩ := bind_some h
    replace hx4 := Option.some.inj hx4
    have fx := i5 he3a he3b he3c hx4 hc2
    refine Wp.region hU no_ok rgIF <| thenN <| ?_
    obtain ⟨e5, he5, h⟩ := bind_some h
    obtain ⟨he5a, he5b, he5c⟩ := rd_some he5
    have fx := i4 he5a he5b he5c hc2
    refine Wp.region hU no_ok rgIF <| blkN <| thenN <| ?_
    refine Wk.wp (s2 := ⟨.row 0 1 0 ((setL l0 v (IntKind.u32.wrap x4)).length) :: jj 4 (.v (.int .u64 (shrI .u64 x4 32)) :: jj 5 (.v (.int .i64 (a.length : Int)) :: .v (.int .i64 v) :: jj 26 [])), St [some ⟨1, false, true, List.map (cInt .u32) (setL l0 v (IntKind.u32.wrap x4))⟩], some 0, 1⟩) ?_ ?_
    · refine Wk.weakK hU [some 0] _ (by decide) (k := 1) rfl rfl ?_ ?_
      · refine .obj rfl ?_ ?_
        · exact woI
        exact .nil
      · exact wvI
    have fx := hc2
    refine Wp.region hU no_ok rgIF <| againN <| ?_
    refine Wk.wpL ?_ (ih (setL l0 v (IntKind.u32.wrap x4)) (shrI .u64 x4 32) (IntKind.i64.wrap (v + 1)) _ h)
    refine Wk.weakK hU [some 0] _ (by decide) (k := 1) rfl rfl ?_ ?_
    · refine .obj rfl ?_ ?_
      · exact woI
      exact .nil
    · exact wvI
  · rw [if_f hc2] at h
    refine Wp.exit <| thenE <| againE <| ?_
    obtain rfl := Option.some.inj h
    refine ⟨rfl, ?_⟩
    refine Wk.weakK hU [some 0] _ (by decide) (k := 1) rfl rfl ?_ ?_
    · refine .obj rfl ?_ ?_
      · exact woI
      exact .nil
    · exact wvI

set_option maxHeartbeats 4000000 in
theorem f61_ok (a : List Int) (d : Int) (r : List Int) (h : f61 a d = some r) : RefC E 61 1 [.row 0 1 0 ((a).length), .v (.int .u32 d)] (f61_S a d) (.row 1 1 0 ((r).length)) [none, some ⟨1, false, true, List.map (cInt .u32) r⟩] := by
  unfold f61 at h
  refine ref_of_wp tabOK mixed (fn := Try.f61) (nt := 39) Try.func61 rfl rfl (names _ _ Try.func61) (fun _ => rfl) (refOK_of rfl) (fun base c00 hU => ?_)
  refine Wk.wp (s2 := ⟨.row 0 1 0 ((a).length) :: .v (.int .u32 d) :: jj 37 [], St [some ⟨1, false, true, List.map (cInt .u32) a⟩], some 0, 1⟩) ?_ ?_
  · refine Wk.weakK hU [some 0] _ (by decide) (k := 1) rfl rfl ?_ ?_
    refine .obj rfl ?_ ?_
    · exact .same _ _ _
    · exact .nil
    simp only [jjs, List.length_cons, List.length_nil, Nat.reduceAdd, Nat.reduceSub, List.replicate, List.cons_append, List.nil_append]
    repeat' (first | exact WVs.nil | refine WVs.cons ?_ ?_)
    all_goals first | exact WV.junk _ | exact WV.keep rfl | exact WV.row rfl | exact WV.ptr rfl | exact WV.tptr rfl | exact .agg rfl (aggKeep rfl)
  refine Wp.seq <| Wp.region hU no_ok rgI <| thenN <| Wp.seq <| Wp.region hU no_ok rgI <| thenN <| Wp.seq <| Wp.seq <| Wp.region hU no_ok rgI <| thenN <| Wp.block <| ?_
  obtain ⟨o1, ho1, h⟩ := bind_some h
  refine Wp.loop <| ?_
  refine Tw.mono (Wk.wpL (s2 := ⟨.row 0 1 0 ((a).length) :: jj 4 (.v (.int .u64 (IntKind.u64.wrap d)) :: jj 5 (.v (.int .i64 (a.length : Int)) :: .v (.int .i64 0) :: jj 26 [])), St [some ⟨1, false, true, List.map (cInt .u32) a⟩], some 0, 1⟩) ?_ (f61_l0_ok a d hU a (IntKind.u64.wrap d) 0 o1 ho1)) (fun ex s1 hp => ?_)
  · refine Wk.weakK hU [some 0] _ (by decide) (k := 1) rfl rfl ?_ ?_
    · refine .obj rfl ?_ ?_
      · exact woI
      exact .nil
    · exact wvI
  · obtain ⟨rfl, hp⟩ := hp
    refine blkE <| thenN <| hp.wp <| Wp.seq <| Wp.seq <| Wp.region hU no_ok rgI <| thenN <| ?_
    refine Wp.cond hU (t := decide (o1.2 > 0)) rfl (fun hc6 => ?_) (fun hc6 => ?_)
    · rw [if_t hc6] at h
      obtain ⟨a7, ha7, h⟩ := bind_some h
      obtain ⟨ha7a, ha7b⟩ := ap_some ha7
      try simp only [List.length_cons, List.length_nil, Nat.zero_add, Nat.add_zero, Nat.reduceAdd] at ha7a
      have fx := i2 ha7a hc6
      refine Wp.region hU no_ok rgIF <| thenN <| ?_
      refine Wk.wp (s2 := ⟨.row 1 1 0 ((a7).length) :: jj 38 [], St [none, some ⟨1, false, true, List.map (cInt .u32) a7⟩], some 0, 1⟩) ?_ ?_
      · refine Wk.weakK hU [some 0, some 2] _ (by decide) (k := 1) rfl rfl ?_ ?_
        · refine .dead ?_
          refine .obj rfl ?_ ?_
          · have fe := ha7b
            have fl := nofx
            have fv := nofx
            exact woIF
          exact .nil
        · have fe := ha7b
          have fl := ha7b
          have fv := nofx
          exact wvIF
      refine Wp.seq <| ?_
      have fx := hc6
      refine Wp.region hU no_ok rgIF <| thenN <| Wp.ret <| ?_
      obtain rfl := Option.some.inj h
      refine ⟨.inl rfl, ?_⟩
      refine RtR.wk (s2 := ⟨jj 4 (.row 1 1 0 ((a7).length) :: jj 34 []), St [none, some ⟨1, false, true, List.map (cInt .u32) a7⟩], some 0, 1⟩) ?_ (RtR.of rfl rfl)
      · refine Wk.weakK hU [some 0, some 1] _ (by decide) (k := 1) rfl rfl ?_ ?_
        · refine .dead ?_
          refine .obj rfl ?_ ?_
          · have fe := ha7b
            have fl := nofx
            have fv := nofx
            exact woIF
          exact .nil
        · have fe := ha7b
          have fl := ha7b
          have fv := nofx
          exact wvIF
    · rw [if_f hc6] at h
      refine Wp.skip <| thenN <| Wp.seq <| ?_
      have fx := hc6
      refine Wp.region hU no_ok rgIF <| thenN <| Wp.ret <| ?_
      obtain rfl := Option.some.inj h
      refine ⟨.inl rfl, ?_⟩
      refine RtR.wk (s2 := ⟨jj 4 (.row 1 1 0 ((o1.1).length) :: jj 34 []), St [none, some ⟨1, false, true, List.map (cInt .u32) o1.1⟩], some 0, 1⟩) ?_ (RtR.of rfl rfl)
      · refine Wk.trans (s2 := ⟨.row 1 1 0 ((o1.1).length) :: jj 3 (.row 1 1 0 ((o1.1).length) :: .v (.int .u64 o1.2) :: jj 25 (.v (.int .u64 o1.2) :: .v (.bool false) :: jj 5 (.row 1 1 0 ((o1.1).length) :: []))), St [none, some ⟨1, false, true, List.map (cInt .u32) o1.1⟩], some 0, 1⟩) (Wk.moveTo hU 0 _ rfl rfl rfl rfl rfl) ?_
        refine Wk.weakK hU [some 0, some 1] _ (by decide) (k := 1) rfl rfl ?_ ?_
        · refine .dead ?_
          refine .obj rfl ?_ ?_
          · exact woI
          exact .nil
        · exact wvI

end Go.Bx.Scan

/- sibyl/sibylref04.among, printed by pf.py. (Own text.) -/
namespace Go.Bx.Scan
set_option linter.unusedVariables false
set_option linter.unusedSimpArgs false
set_option linter.unusedSectionVars false
open Go.Proofs
set_option linter.unusedSimpArgs false
set_option linter.unusedVariables false
set_option maxRecDepth 10000
def f21_l0 (c : Int) (s : Str) (i : Int) : Option (Ou Bool Unit) :=
  if (decide (i < (s.length : Int))) = true then
    (bt s i >>= fun b3 =>
    if (b3 == c) = true then
      (some (.ret true))
    else
      f21_l0 c s (IntKind.i64.wrap (i + 1)))
  else
    some (.nxt ())
  partial_fixpoint

/-- sibyl/sibylref04.among -/
def f21 (c : Int) (s : Str) : Option (Bool) :=
  f21_l0 c s 0 >>= fun o1 => match o1 with
  | .ret r0 => some r0
  | .nxt wo1 =>
    some false

theorem f21_res : Try.f21.results = #[.tmp 4] := rfl
theorem f21_rt : Try.f21.resultTypes = #[4] := rfl

set_option maxHeartbeats 4000000 in
theorem f21_l0_ok {base : Nat} {c00 : Ctx} (c : Int) (s : Str) (hU : Under E base c00 nilStore) : ∀ (i : Int) (o1 : Ou Bool Unit), f21_l0 c s i = some o1 →
    WpL E base c00 nilStore (lb Try.f21 0) ⟨.v (.int .u8 c) :: .v (.string (mkS s)) :: jj 3 (.v (.int .i64 i) :: jj 11 []), St [], none, 0⟩ (fun ex s1 => match o1 with | .ret r0 => ex = .ret ∧ Rt E base c00 Try.f21 (.v (.bool r0)) s1 | .nxt wo1 => ex = .exit 0 ∧ Wk base c00 nilStore s1 ⟨jj 17 [], St [], none, 0⟩) := by
  refine f21_l0.partial_correctness c s _ ?_
  intro lp__ ih i o1 h
  refine WpL.stepE (by simp only [Try.f21, lb, Option.getD_some, loopsOf, List.nil_append, List.append_nil, List.cons_append, List.getElem?_cons_zero, List.getElem?_cons_succ] <;> rfl) ?_
  refine Wp.seq <| Wp.seq <| Wp.region hU no_ok rgI <| thenN <| ?_
  refine Wp.cond hU (t := decide (i < (s.length : Int))) rfl (fun hc2 => ?_) (fun hc2 => ?_)
  · rw [if_t hc2] at h
    refine Wp.skip <| thenN <| Wp.seq <| Wp.block <| Wp.seq <| ?_
    obtain ⟨b3, hb3, h⟩ := bind_some h
    have fx := i2 hb3 hc2
    refine Wp.region hU no_ok rgIF <| thenN <| ?_
    refine Wp.cond hU (t := b3 == c) rfl (fun hc4 => ?_) (fun hc4 => ?_)
    · rw [if_t hc4] at h
      refine Wp.seq <| ?_
      have fx := i2 hc2 hc4
      refine Wp.region hU no_ok rgIF <| thenN <| Wp.ret <| blkR <| thenR <| againR <| ?_
      obtain rfl := Option.some.inj h
      refine ⟨rfl, ?_⟩
      refine Rt.of <| ?_
      have fx := i2 f21_res f21_rt
      exact rtI
    · rw [if_f hc4] at h
      refine Wp.skip <| blkN <| thenN <| ?_
      have fx := i2 hc2 hc4
      refine Wp.region hU no_ok rgIF <| againN <| ?_
      refine Wk.wpL ?_ (ih (IntKind.i64.wrap (i + 1)) _ h)
      refine Wk.weak hU [] _ (by decide) ?_ ?_
      · exact .nil
      · exact wvI
  · rw [if_f hc2] at h
    refine Wp.exit <| thenE <| againE <| ?_
    obtain rfl := Option.some.inj h
    refine ⟨rfl, ?_⟩
    refine Wk.weak hU [] _ (by decide) ?_ ?_
    · exact .nil
    · exact wvI

set_option maxHeartbeats 4000000 in
theorem f21_ok (c : Int) (s : Str) (r : Bool) (h : f21 c s = some r) : PureOK E 21 [.v (.int .u8 c), .v (.string (mkS s))] (.v (.bool r)) := by
  unfold f21 at h
  refine pure_of_wp tabOK mixed (fn := Try.f21) (nt := 17) Try.func21 rfl rfl (names _ _ Try.func21) rfl rfl (fun _ => rfl) (fun base c00 hU => ?_)
  refine Wk.wp (s2 := ⟨.v (.int .u8 c) :: .v (.string (mkS s)) :: jj 15 [], St [], none, 0⟩) ?_ ?_
  · refine Wk.weak hU [] _ (by decide) .nil ?_
    simp only [jjs, List.length_cons, List.length_nil, Nat.reduceAdd, Nat.reduceSub, List.replicate, List.cons_append, List.nil_append]
    repeat' (first | exact WVs.nil | refine WVs.cons ?_ ?_)
    all_goals first | exact WV.junk _ | exact WV.keep rfl | exact .agg rfl (aggKeep rfl)
  refine Wp.seq <| Wp.region hU no_ok rgI <| thenN <| Wp.seq <| Wp.seq <| Wp.region hU no_ok rgI <| thenN <| Wp.block <| ?_
  obtain ⟨o1, ho1, h⟩ := bind_some h
  refine Wp.loop <| ?_
  refine Tw.mono (Wk.wpL (s2 := ⟨.v (.int .u8 c) :: .v (.string (mkS s)) :: jj 3 (.v (.int .i64 0) :: jj 11 []), St [], none, 0⟩) ?_ (f21_l0_ok c s hU 0 o1 ho1)) (fun ex s1 hp => ?_)
  · refine Wk.weak hU [] _ (by decide) ?_ ?_
    · exact .nil
    · exact wvI
  · cases o1 with
    | ret r0 =>
      obtain ⟨rfl, hp⟩ := hp
      obtain rfl := Option.some.inj h
      refine blkR <| thenR <| ?_
      exact ⟨.inl rfl, hp⟩
    | nxt wo1 =>
      obtain ⟨rfl, hp⟩ := hp
      dsimp only at h
      refine blkE <| thenN <| hp.wp <| Wp.seq <| Wp.region hU no_ok rgI <| thenN <| Wp.ret <| ?_
      obtain rfl := Option.some.inj h
      refine ⟨.inl rfl, ?_⟩
      refine Rt.of <| ?_
      have fx := i2 f21_res f21_rt
      exact rtI

noncomputable def f21_tbl : CI := tbl 21 (fun p : Int × Str => [.v (.int .u8 p.1), .v (.string (mkS p.2))]) (fun p => (f21 p.1 p.2).map fun r => .v (.bool r))
theorem f21_tbl_ok {base : Nat} : CIOK E base f21_tbl := tbl_ok fun p r h => by obtain ⟨q, hq, rfl⟩ := Option.map_eq_some_iff.1 h; exact f21_ok p.1 p.2 q hq
theorem f21_call {c : Int} {s : Str} {r : Bool} (h : f21 c s = some r) (σ : Store) : f21_tbl 21 [.v (.int .u8 c), .v (.string (mkS s))] σ = some (.v (.bool r), σ, none) :=
  tbl_eq (x := (c, s)) (fun x y e => by
    obtain ⟨x0, x1⟩ := x; obtain ⟨y0, y1⟩ := y
    have e0 := av_int (List.cons.inj e).1
    have e1 := av_str (List.cons.inj (List.cons.inj e).2).1
    subst e0 e1; rfl) (by simp [h]) σ
end Go.Bx.Scan
