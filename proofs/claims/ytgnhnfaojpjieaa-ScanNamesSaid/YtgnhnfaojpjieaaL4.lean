/- What the program's functions compute, shown of their code (L4). Own text; parts are printed by a program of this claim's author. -/
import Derived.Test.YtgnhnfaojpjieaaWf
import Derived.Test.YtgnhnfaojpjieaaRows
import Derived.WalkKit
import Derived.ProofKit
import Derived.OpenShut
import Derived.ShutString
import Derived.ChangeOld
import Derived.SizedLaws
/- Layer 04: which texts are names, in plain Lean. (Own text.) -/
namespace Go.Bx.Scan
set_option linter.unusedVariables false
set_option linter.unusedSimpArgs false
set_option linter.unusedSectionVars false
open Go.Proofs
set_option linter.unusedVariables false
set_option linter.unusedSimpArgs false

theorem w64 {x : Int} (h : -9223372036854775808 ≤ x) (h2 : x < 9223372036854775808) : IntKind.i64.wrap x = x := IntWalk.i64_in _ ⟨h, by omega⟩
theorem rd_nat {α : Type} {l : List α} {i : Nat} (h : i < l.length) : rd l (i : Int) = some l[i] := rd_of (by simp [-List.getElem_cons_drop, h])
theorem bind_ok {α β : Type} (x : α) (f : α → Option β) : ((some x) >>= f) = f x := rfl
theorem bt_nat {s : Str} {i : Nat} (h : i < s.length) : bt s (i : Int) = some (s[i].toNat : Int) := by unfold bt; rw [rd_nat h]; rfl
theorem toByte (b : UInt8) : ((b.toNat : Int)).toNat.toUInt8 = b := by simp

/-- Is a byte in a text. -/
theorem f19_eq (s : Str) (b : UInt8) : f19 s (b.toNat : Int) = some (Lib.indexByte s b) := by unfold f19; rw [toByte]
theorem in_byte (s : Str) (b : UInt8) (inst : Decidable (Lib.indexByte s b ≥ 0)) : @decide (Lib.indexByte s b ≥ 0) inst = s.contains b := by rw [Lib.contains_iff_indexByte s b]; congr
theorem d97 (b : UInt8) : decide ((b.toNat : Int) ≥ 97) = decide (97 ≤ b.toNat) := decide_eq_decide.2 (by omega)
theorem d122 (b : UInt8) : decide ((b.toNat : Int) ≤ 122) = decide (b.toNat ≤ 122) := decide_eq_decide.2 (by omega)
theorem d65 (b : UInt8) : decide ((b.toNat : Int) ≥ 65) = decide (65 ≤ b.toNat) := decide_eq_decide.2 (by omega)
theorem d90 (b : UInt8) : decide ((b.toNat : Int) ≤ 90) = decide (b.toNat ≤ 90) := decide_eq_decide.2 (by omega)
theorem f21_l0_eq (b : UInt8) (s : Str) (hl : s.length < 9223372036854775807) : ∀ (k i : Nat), i + k = s.length → f21_l0 (b.toNat : Int) s i = some (if (s.drop i).contains b then .ret true else .nxt ())
  | 0, i, hk => by
    rw [f21_l0, if_neg (by simp; omega), List.drop_of_length_le (by omega)]; rfl
  | k + 1, i, hk => by
    have h1 : i < s.length := by omega
    rw [f21_l0, if_pos (by simp; omega), bt_nat h1]
    simp only [bind_ok]
    rw [List.drop_eq_getElem_cons h1, w64 (by omega) (by omega), show ((i : Int) + 1) = ((i + 1 : Nat) : Int) by omega]
    by_cases he : s[i] = b
    · rw [if_pos (by simp [-List.getElem_cons_drop, he])]
      simp [-List.getElem_cons_drop, he]
    · have hne : ¬ ((s[i].toNat : Int) = (b.toNat : Int)) := fun h => he (UInt8.toNat_inj.1 (by omega))
      rw [if_neg (by simpa [-List.getElem_cons_drop] using hne), f21_l0_eq b s hl k (i + 1) (by omega)]
      have hbe : (b == s[i]) = false := beq_eq_false_iff_ne.2 (fun h => he h.symm)
      rw [List.contains_cons, hbe, Bool.false_or]
theorem f21_eq (b : UInt8) (s : Str) (hl : s.length < 9223372036854775807) : f21 (b.toNat : Int) s = some (s.contains b) := by
  unfold f21
  have := f21_l0_eq b s hl s.length 0 (by omega)
  rw [show ((0 : Nat) : Int) = 0 from rfl] at this
  rw [this]
  simp only [bind_ok, List.drop_zero]
  cases s.contains b <;> rfl

def starts : Str := [33, 36, 37, 38, 42, 47, 58, 60, 61, 62, 63, 94, 95, 126]
def others : Str := [48, 49, 50, 51, 52, 53, 54, 55, 56, 57, 43, 45, 46, 64]
/-- How a name may begin. -/
def beginsB (b : UInt8) : Bool := (decide (97 ≤ b.toNat) && decide (b.toNat ≤ 122)) || (decide (65 ≤ b.toNat) && decide (b.toNat ≤ 90)) || starts.contains b
theorem f37_eq (b : UInt8) : f37 (b.toNat : Int) = some (beginsB b) := by
  have h := f19_eq [33, 36, 37, 38, 42, 47, 58, 60, 61, 62, 63, 94, 95, 126] b
  unfold f37
  rw [h]
  simp only [bind_ok, in_byte, d97, d122, d65, d90]
  unfold beginsB starts
  generalize List.contains _ b = x
  cases decide (97 ≤ b.toNat) <;> cases decide (b.toNat ≤ 122) <;> cases decide (65 ≤ b.toNat) <;> cases decide (b.toNat ≤ 90) <;> cases x <;> rfl
theorem f38_eq (b : UInt8) : f38 (b.toNat : Int) = some (beginsB b) := by
  have h := f21_eq b [33, 36, 37, 38, 42, 47, 58, 60, 61, 62, 63, 94, 95, 126] (by decide)
  unfold f38
  rw [h]
  simp only [bind_ok, d97, d122, d65, d90]
  unfold beginsB starts
  generalize List.contains _ b = x
  cases decide (97 ≤ b.toNat) <;> cases decide (b.toNat ≤ 122) <;> cases decide (65 ≤ b.toNat) <;> cases decide (b.toNat ≤ 90) <;> cases x <;> rfl
def goesB (b : UInt8) : Bool := beginsB b || others.contains b
theorem f24_l0_eq (s : Str) (hl : s.length < 9223372036854775807) : ∀ (k i : Nat), i + k = s.length → f24_l0 s i = some (if (s.drop i).all goesB then .nxt () else .ret false)
  | 0, i, hk => by
    rw [f24_l0, if_neg (by simp; omega), List.drop_of_length_le (by omega)]; rfl
  | k + 1, i, hk => by
    have h1 : i < s.length := by omega
    rw [f24_l0, if_pos (by simp; omega), bt_nat h1]
    simp only [bind_ok, f37_eq]
    have hi := in_byte others s[i]
    rw [List.drop_eq_getElem_cons h1, w64 (by omega) (by omega), show ((i : Int) + 1) = ((i + 1 : Nat) : Int) by omega, List.all_cons]
    have ih := f24_l0_eq s hl k (i + 1) (by omega)
    have h19 := f19_eq others s[i]
    unfold others at hi h19
    cases hb : beginsB s[i] with
    | true => simp only [Bool.not_true, Bool.false_eq_true, if_false, bind_ok, ih, goesB, hb, Bool.true_or, Bool.true_and]
    | false =>
      simp only [Bool.not_false, if_true, h19, bind_ok, goesB, hb, Bool.false_or]
      unfold others
      rw [← hi inferInstance]
      by_cases hn : Lib.indexByte [48, 49, 50, 51, 52, 53, 54, 55, 56, 57, 43, 45, 46, 64] s[i] < 0
      · have : ¬ Lib.indexByte [48, 49, 50, 51, 52, 53, 54, 55, 56, 57, 43, 45, 46, 64] s[i] ≥ 0 := by omega
        simp only [hn, this, decide_true, decide_false, if_true, bind_ok, Bool.false_and, Bool.false_eq_true, if_false]
      · have : Lib.indexByte [48, 49, 50, 51, 52, 53, 54, 55, 56, 57, 43, 45, 46, 64] s[i] ≥ 0 := by omega
        simp only [hn, this, decide_true, decide_false, Bool.false_eq_true, if_false, bind_ok, Bool.true_and, ih]
theorem f25_l0_eq (s : Str) (hl : s.length < 9223372036854775807) : ∀ (k i : Nat), i + k = s.length → f25_l0 s i = some (if (s.drop i).all goesB then .nxt () else .ret false)
  | 0, i, hk => by
    rw [f25_l0, if_neg (by simp; omega), List.drop_of_length_le (by omega)]; rfl
  | k + 1, i, hk => by
    have h1 : i < s.length := by omega
    rw [f25_l0, if_pos (by simp; omega), bt_nat h1]
    simp only [bind_ok, f38_eq]
    rw [List.drop_eq_getElem_cons h1, w64 (by omega) (by omega), show ((i : Int) + 1) = ((i + 1 : Nat) : Int) by omega, List.all_cons]
    have ih := f25_l0_eq s hl k (i + 1) (by omega)
    have h21 := f21_eq s[i] others (by decide)
    unfold others at h21
    cases hb : beginsB s[i] with
    | true => simp only [Bool.not_true, Bool.false_eq_true, if_false, bind_ok, ih, goesB, hb, Bool.true_or, Bool.true_and]
    | false =>
      simp only [Bool.not_false, if_true, h21, bind_ok, goesB, hb, Bool.false_or]
      unfold others
      cases hc : List.contains [48, 49, 50, 51, 52, 53, 54, 55, 56, 57, 43, 45, 46, 64] s[i] with
      | true => simp only [Bool.not_true, Bool.false_eq_true, if_false, bind_ok, ih, Bool.true_and]
      | false => simp only [Bool.not_false, if_true, bind_ok, Bool.false_and, Bool.false_eq_true, if_false]
def shapeB (s : Str) : Bool := s == [43] || s == [45] || (match s with | [] => false | b :: r => beginsB b && r.all goesB)
theorem f24_eq (s : Str) (hl : s.length < 9223372036854775807) : f24 s = some (shapeB s) := by
  unfold f24 shapeB
  by_cases h1 : s = [43]
  · subst h1; rfl
  by_cases h2 : s = [45]
  · subst h2; rfl
  rw [if_neg (by simpa using h1), if_neg (by simpa using h2)]
  have e1 : (s == [43]) = false := beq_eq_false_iff_ne.2 h1
  have e2 : (s == [45]) = false := beq_eq_false_iff_ne.2 h2
  rw [e1, e2]
  cases s with
  | nil => rfl
  | cons b r =>
    rw [if_neg (by simp)]
    have hb := bt_nat (s := b :: r) (i := 0) (by simp)
    have ih := f24_l0_eq (b :: r) hl r.length 1 (by simp; omega)
    have hb : bt (b :: r) 0 = some (b.toNat : Int) := hb
    have ih : f24_l0 (b :: r) 1 = some (if r.all goesB then .nxt () else .ret false) := ih
    rw [hb]
    simp only [bind_ok, f37_eq, Bool.false_or]
    cases beginsB b with
    | false => rfl
    | true =>
      simp only [Bool.not_true, Bool.false_eq_true, if_false, ih, bind_ok, Bool.true_and]
      cases r.all goesB <;> rfl
theorem f25_eq (s : Str) (hl : s.length < 9223372036854775807) : f25 s = some (shapeB s) := by
  unfold f25 shapeB
  by_cases h1 : s = [43]
  · subst h1; rfl
  by_cases h2 : s = [45]
  · subst h2; rfl
  rw [if_neg (by simpa using h1), if_neg (by simpa using h2)]
  have e1 : (s == [43]) = false := beq_eq_false_iff_ne.2 h1
  have e2 : (s == [45]) = false := beq_eq_false_iff_ne.2 h2
  rw [e1, e2]
  cases s with
  | nil => rfl
  | cons b r =>
    rw [if_neg (by simp; omega)]
    have hb := bt_nat (s := b :: r) (i := 0) (by simp)
    have ih := f25_l0_eq (b :: r) hl r.length 1 (by simp; omega)
    have hb : bt (b :: r) 0 = some (b.toNat : Int) := hb
    have ih : f25_l0 (b :: r) 1 = some (if r.all goesB then .nxt () else .ret false) := ih
    rw [hb]
    simp only [bind_ok, f38_eq, Bool.false_or]
    cases beginsB b with
    | false => rfl
    | true =>
      simp only [Bool.not_true, Bool.false_eq_true, if_false, ih, bind_ok, Bool.true_and]
      cases r.all goesB <;> rfl
/-- Is a text a name. -/
def nameB (s : Str) : Bool := decide (s.length ≤ 32) && shapeB s
theorem f14_eq (s : Str) : f14 s = some (nameB s) := by
  unfold f14 nameB
  by_cases h : s.length ≤ 32
  · rw [if_pos (by simp; omega), f24_eq s (by omega)]; simp [bind_ok, h]
  · rw [if_neg (by simp; omega)]; simp [bind_ok, h]
theorem f15_eq (s : Str) (hl : s.length < 9223372036854775807) : f15 s = some (nameB s) := by
  unfold f15 nameB
  rw [f25_eq s hl]
  simp only [bind_ok]
  cases shapeB s <;> by_cases h : s.length ≤ 32 <;> simp [bind_ok, h] <;> omega
end Go.Bx.Scan

/- Twins that recur on a number. (Own text.) -/
namespace Go.Bx.Scan
set_option linter.unusedVariables false
set_option linter.unusedSimpArgs false
set_option linter.unusedSectionVars false
set_option linter.unusedVariables false
set_option maxRecDepth 10000
def Le {α : Type} (x y : Option α) : Prop := ∀ r, x = some r → y = some r
theorem Le.refl {α : Type} (x : Option α) : Le x x := fun _ h => h
theorem Le.none {α : Type} (y : Option α) : Le none y := fun _ h => by cases h
theorem Le.bind {α β : Type} {x y : Option α} {f g : α → Option β} (h : Le x y) (k : ∀ a, Le (f a) (g a)) : Le (x >>= f) (y >>= g) := fun r hr => by
  cases x with
  | none => cases hr
  | some a => rw [h a rfl]; exact k a r hr
theorem Le.ite {α : Type} {p : Prop} [Decidable p] {a b c d : Option α} (h : Le a c) (k : Le b d) : Le (if p then a else b) (if p then c else d) := by split <;> assumption
theorem Le.ou {α β γ : Type} (o : Ou α β) {f h : α → Option γ} {g k : β → Option γ} (a : ∀ r, Le (f r) (h r)) (b : ∀ r, Le (g r) (k r)) : Le (match o with | .ret r => f r | .nxt w => g w) (match o with | .ret r => h r | .nxt w => k w) := by cases o; exact a _; exact b _
def g80 (n__ : Nat) (x : Int) (y : Int) (carry : Int) : Option (Int × Int) :=
  some (IntKind.u64.wrap ((IntKind.u64.wrap ((IntKind.u64.wrap x) + (IntKind.u64.wrap y))) + (IntKind.u64.wrap carry))) >>= fun x1 =>
  some (IntKind.u32.wrap x1, IntKind.u32.wrap (shrI .u64 x1 32))
theorem g80_le (n__ : Nat) (x : Int) (y : Int) (carry : Int) : Le (g80 n__ x y carry) (f80 x y carry) := by
  unfold f80 g80
  repeat' (first | exact Le.refl _ | refine Le.bind ?_ (fun _ => ?_) | refine Le.ite ?_ ?_ | (rename_i o__; cases o__))
def g72_l0 (fuel__ : Nat) (a : List Int) (n : Int) : Option (Int) := match fuel__ with
  | 0 => none
  | n__ + 1 =>
    if (decide (n > 0)) = true then
      (rd a (IntKind.i64.wrap (n - 1)) >>= fun e2 =>
      if (e2 == 0) = true then
        (g72_l0 n__ a (IntKind.i64.wrap (n - 1)))
      else
        some n)
    else
      some n
theorem g72_l0_le : ∀ (n__ : Nat) (a : List Int) (n : Int), Le (g72_l0 n__ a n) (f72_l0 a n)
  | 0, _, _ => Le.none _
  | n__ + 1, a, n => by
    rw [f72_l0]; unfold g72_l0
    repeat' (first | exact Le.refl _ | exact g72_l0_le _ _ _ | refine Le.bind ?_ (fun _ => ?_) | refine Le.ite ?_ ?_ | (rename_i o__; cases o__))
def g72 (n__ : Nat) (a : List Int) : Option (List Int) :=
  g72_l0 n__ a (a.length : Int) >>= fun o1 =>
  cutL a 0 o1 >>= fun p2 =>
  some p2
theorem g72_le (n__ : Nat) (a : List Int) : Le (g72 n__ a) (f72 a) := by
  unfold f72 g72
  repeat' (first | exact Le.refl _ | exact g72_l0_le _ _ _ | refine Le.bind ?_ (fun _ => ?_) | refine Le.ite ?_ ?_ | (rename_i o__; cases o__))
def g73_l0 (fuel__ : Nat) (r1 : List Int) (r2 : List Int) (i : Int) : Option (Ou Int Unit) := match fuel__ with
  | 0 => none
  | n__ + 1 =>
    if (decide (i ≥ 0)) = true then
      (rd r1 i >>= fun e8 =>
      rd r2 i >>= fun e9 =>
      if (e8 != e9) = true then
        (rd r1 i >>= fun e11 =>
        rd r2 i >>= fun e12 =>
        if (decide (e11 < e12)) = true then
          (some (.ret (-1)))
        else
          some (.ret 1))
      else
        g73_l0 n__ r1 r2 (IntKind.i64.wrap (i - 1)))
    else
      some (.nxt ())
theorem g73_l0_le : ∀ (n__ : Nat) (r1 : List Int) (r2 : List Int) (i : Int), Le (g73_l0 n__ r1 r2 i) (f73_l0 r1 r2 i)
  | 0, _, _, _ => Le.none _
  | n__ + 1, r1, r2, i => by
    rw [f73_l0]; unfold g73_l0
    repeat' (first | exact Le.refl _ | exact g73_l0_le _ _ _ _ | refine Le.bind ?_ (fun _ => ?_) | refine Le.ite ?_ ?_ | (rename_i o__; cases o__))
def g73 (n__ : Nat) (a : List Int) (b : List Int) : Option (Int) :=
  g72 n__ a >>= fun r1 =>
  g72 n__ b >>= fun r2 =>
  if ((r1.length : Int) != (r2.length : Int)) = true then
    (if (decide ((r1.length : Int) < (r2.length : Int))) = true then
      (some (-1))
    else
      some 1)
  else
    some (IntKind.i64.wrap ((r1.length : Int) - 1)) >>= fun x5 =>
    g73_l0 n__ r1 r2 x5 >>= fun o6 => match o6 with
    | .ret r0 => some r0
    | .nxt wo6 =>
      some 0
theorem g73_le (n__ : Nat) (a : List Int) (b : List Int) : Le (g73 n__ a b) (f73 a b) := by
  unfold f73 g73
  repeat' (first | exact Le.refl _ | exact g72_le _ _ | exact g73_l0_le _ _ _ _ | refine Le.bind ?_ (fun _ => ?_) | refine Le.ite ?_ ?_ | (rename_i o__; cases o__))
def g74_l0 (fuel__ : Nat) (a : List Int) (w : Int) (out : List Int) (r_ : Int) (i : Int) : Option ((List Int) × Int) := match fuel__ with
  | 0 => none
  | n__ + 1 =>
    if (decide (i ≥ 0)) = true then
      (rd a i >>= fun e5 =>
      some (orI .u64 (shlI .u64 r_ 32) (IntKind.u64.wrap e5)) >>= fun x6 =>
      nz (IntKind.u64.wrap w) >>= fun u7 =>
      rd out i >>= fun e8 =>
      nz (IntKind.u64.wrap w) >>= fun u9 =>
      g74_l0 n__ a w (setL out i (IntKind.u32.wrap (quoI .u64 x6 (IntKind.u64.wrap w)))) (x6.tmod (IntKind.u64.wrap w)) (IntKind.i64.wrap (i - 1)))
    else
      some (out, r_)
theorem g74_l0_le : ∀ (n__ : Nat) (a : List Int) (w : Int) (out : List Int) (r_ : Int) (i : Int), Le (g74_l0 n__ a w out r_ i) (f74_l0 a w out r_ i)
  | 0, _, _, _, _, _ => Le.none _
  | n__ + 1, a, w, out, r_, i => by
    rw [f74_l0]; unfold g74_l0
    repeat' (first | exact Le.refl _ | exact g74_l0_le _ _ _ _ _ _ | refine Le.bind ?_ (fun _ => ?_) | refine Le.ite ?_ ?_ | (rename_i o__; cases o__))
def g74 (n__ : Nat) (a : List Int) (w : Int) : Option ((List Int) × Int) :=
  mk 4 (a.length : Int) 0 >>= fun m1 =>
  some (IntKind.i64.wrap ((a.length : Int) - 1)) >>= fun x2 =>
  g74_l0 n__ a w m1 0 x2 >>= fun o3 =>
  g72 n__ o3.1 >>= fun r10 =>
  some (r10, IntKind.u32.wrap o3.2)
theorem g74_le (n__ : Nat) (a : List Int) (w : Int) : Le (g74 n__ a w) (f74 a w) := by
  unfold f74 g74
  repeat' (first | exact Le.refl _ | exact g72_le _ _ | exact g74_l0_le _ _ _ _ _ _ | refine Le.bind ?_ (fun _ => ?_) | refine Le.ite ?_ ?_ | (rename_i o__; cases o__))
def g62_l0 (fuel__ : Nat) (a : List Int) (n : Int) : Option (Int) := match fuel__ with
  | 0 => none
  | n__ + 1 =>
    if (decide (n > 0)) = true then
      (rd a (IntKind.i64.wrap (n - 1)) >>= fun e2 =>
      if (e2 == 0) = true then
        (g62_l0 n__ a (IntKind.i64.wrap (n - 1)))
      else
        some n)
    else
      some n
theorem g62_l0_le : ∀ (n__ : Nat) (a : List Int) (n : Int), Le (g62_l0 n__ a n) (f62_l0 a n)
  | 0, _, _ => Le.none _
  | n__ + 1, a, n => by
    rw [f62_l0]; unfold g62_l0
    repeat' (first | exact Le.refl _ | exact g62_l0_le _ _ _ | refine Le.bind ?_ (fun _ => ?_) | refine Le.ite ?_ ?_ | (rename_i o__; cases o__))
def g62 (n__ : Nat) (a : List Int) : Option (List Int) :=
  g62_l0 n__ a (a.length : Int) >>= fun o1 =>
  cutL a 0 o1 >>= fun p2 =>
  ap 4 [] p2 >>= fun a3 =>
  some a3
theorem g62_le (n__ : Nat) (a : List Int) : Le (g62 n__ a) (f62 a) := by
  unfold f62 g62
  repeat' (first | exact Le.refl _ | exact g62_l0_le _ _ _ | refine Le.bind ?_ (fun _ => ?_) | refine Le.ite ?_ ?_ | (rename_i o__; cases o__))
def g64 (n__ : Nat) (a : List Int) : Option (Bool) :=
  (if ((a.length : Int) == 1) = true then
    (rd a 0 >>= fun e2 =>
    some (e2 == 1))
  else
    some false : Option (Bool)) >>= fun o1 =>
  some o1
theorem g64_le (n__ : Nat) (a : List Int) : Le (g64 n__ a) (f64 a) := by
  unfold f64 g64
  repeat' (first | exact Le.refl _ | refine Le.bind ?_ (fun _ => ?_) | refine Le.ite ?_ ?_ | (rename_i o__; cases o__))
def g76_l0 (fuel__ : Nat) (n : Int) (r1 : List Int) (out : List Int) (v : Int) : Option ((List Int)) := match fuel__ with
  | 0 => none
  | n__ + 1 =>
    if (decide (v < (r1.length : Int))) = true then
      (rd r1 v >>= fun e6 =>
      nn (IntKind.u64.wrap (n.tmod 32)) >>= fun u7 =>
      some (shlI .u64 (IntKind.u64.wrap e6) (IntKind.u64.wrap (n.tmod 32))) >>= fun x8 =>
      rd out (IntKind.i64.wrap ((quoI .i64 n 32) + v)) >>= fun e9 =>
      rd (setL out (IntKind.i64.wrap ((quoI .i64 n 32) + v)) (orI .u32 e9 (IntKind.u32.wrap x8))) (IntKind.i64.wrap ((IntKind.i64.wrap ((quoI .i64 n 32) + v)) + 1)) >>= fun e10 =>
      g76_l0 n__ n r1 (setL (setL out (IntKind.i64.wrap ((quoI .i64 n 32) + v)) (orI .u32 e9 (IntKind.u32.wrap x8))) (IntKind.i64.wrap ((IntKind.i64.wrap ((quoI .i64 n 32) + v)) + 1)) (IntKind.u32.wrap (shrI .u64 x8 32))) (IntKind.i64.wrap (v + 1)))
    else
      some out
theorem g76_l0_le : ∀ (n__ : Nat) (n : Int) (r1 : List Int) (out : List Int) (v : Int), Le (g76_l0 n__ n r1 out v) (f76_l0 n r1 out v)
  | 0, _, _, _, _ => Le.none _
  | n__ + 1, n, r1, out, v => by
    rw [f76_l0]; unfold g76_l0
    repeat' (first | exact Le.refl _ | exact g76_l0_le _ _ _ _ _ | refine Le.bind ?_ (fun _ => ?_) | refine Le.ite ?_ ?_ | (rename_i o__; cases o__))
def g76 (n__ : Nat) (a : List Int) (n : Int) : Option (List Int) :=
  g72 n__ a >>= fun r1 =>
  if ((r1.length : Int) == 0) = true then
    (some [])
  else
    mk 4 (IntKind.i64.wrap ((IntKind.i64.wrap ((quoI .i64 n 32) + (r1.length : Int))) + 1)) 0 >>= fun m3 =>
    g76_l0 n__ n r1 m3 0 >>= fun o4 =>
    g72 n__ o4 >>= fun r11 =>
    some r11
theorem g76_le (n__ : Nat) (a : List Int) (n : Int) : Le (g76 n__ a n) (f76 a n) := by
  unfold f76 g76
  repeat' (first | exact Le.refl _ | exact g72_le _ _ | exact g76_l0_le _ _ _ _ _ | refine Le.bind ?_ (fun _ => ?_) | refine Le.ite ?_ ?_ | (rename_i o__; cases o__))
def g78_l0 (fuel__ : Nat) (r1 : List Int) (m3 : List Int) (k_ : Int) (s : Int) (out : List Int) (v : Int) : Option ((List Int)) := match fuel__ with
  | 0 => none
  | n__ + 1 =>
    if (decide (v < (m3.length : Int))) = true then
      ((rd r1 (IntKind.i64.wrap (k_ + v)) >>= fun e7 =>
      if (decide ((IntKind.i64.wrap ((IntKind.i64.wrap (k_ + v)) + 1)) < (r1.length : Int))) = true then
        (rd r1 (IntKind.i64.wrap ((IntKind.i64.wrap (k_ + v)) + 1)) >>= fun e9 =>
        some (orI .u64 (IntKind.u64.wrap e7) (shlI .u64 (IntKind.u64.wrap e9) 32)) >>= fun x10 =>
        nn s >>= fun u11 =>
        rd out v >>= fun e12 =>
        some (setL out v (IntKind.u32.wrap (shrI .u64 x10 s))))
      else
        nn s >>= fun u13 =>
        rd out v >>= fun e14 =>
        some (setL out v (IntKind.u32.wrap (shrI .u64 (IntKind.u64.wrap e7) s))) : Option ((List Int))) >>= fun o6 =>
      g78_l0 n__ r1 m3 k_ s o6 (IntKind.i64.wrap (v + 1)))
    else
      some out
theorem g78_l0_le : ∀ (n__ : Nat) (r1 : List Int) (m3 : List Int) (k_ : Int) (s : Int) (out : List Int) (v : Int), Le (g78_l0 n__ r1 m3 k_ s out v) (f78_l0 r1 m3 k_ s out v)
  | 0, _, _, _, _, _, _ => Le.none _
  | n__ + 1, r1, m3, k_, s, out, v => by
    rw [f78_l0]; unfold g78_l0
    repeat' (first | exact Le.refl _ | exact g78_l0_le _ _ _ _ _ _ _ | refine Le.bind ?_ (fun _ => ?_) | refine Le.ite ?_ ?_ | (rename_i o__; cases o__))
def g78 (n__ : Nat) (a : List Int) (n : Int) : Option (List Int) :=
  g72 n__ a >>= fun r1 =>
  if (decide ((quoI .i64 n 32) ≥ (r1.length : Int))) = true then
    (some [])
  else
    mk 4 (IntKind.i64.wrap ((r1.length : Int) - (quoI .i64 n 32))) 0 >>= fun m3 =>
    g78_l0 n__ r1 m3 (quoI .i64 n 32) (IntKind.u64.wrap (n.tmod 32)) m3 0 >>= fun o4 =>
    g72 n__ o4 >>= fun r15 =>
    some r15
theorem g78_le (n__ : Nat) (a : List Int) (n : Int) : Le (g78 n__ a n) (f78 a n) := by
  unfold f78 g78
  repeat' (first | exact Le.refl _ | exact g72_le _ _ | exact g78_l0_le _ _ _ _ _ _ _ | refine Le.bind ?_ (fun _ => ?_) | refine Le.ite ?_ ?_ | (rename_i o__; cases o__))
def g77_l0 (fuel__ : Nat) (u : List Int) (u_lo : Nat) (u_n : Nat) (v : List Int) (g : Int) (r_ : Int) : Option (Int) := match fuel__ with
  | 0 => none
  | n__ + 1 =>
    if (decide (g ≥ 4294967296)) = true then
      (rd v (IntKind.i64.wrap ((v.length : Int) - 1)) >>= fun e8 =>
      some (IntKind.u64.wrap (r_ + (IntKind.u64.wrap e8))) >>= fun x9 =>
      if (decide (x9 ≥ 4294967296)) = true then
        (some (IntKind.u64.wrap (g - 1)))
      else
        g77_l0 n__ u u_lo u_n v (IntKind.u64.wrap (g - 1)) x9)
    else
      rd v (IntKind.i64.wrap ((v.length : Int) - 2)) >>= fun e8 =>
      rdo u u_lo u_n (IntKind.i64.wrap ((v.length : Int) - 2)) >>= fun e9 =>
      if (decide ((IntKind.u64.wrap (g * (IntKind.u64.wrap e8))) > (orI .u64 (shlI .u64 r_ 32) (IntKind.u64.wrap e9)))) = true then
        (rd v (IntKind.i64.wrap ((v.length : Int) - 1)) >>= fun e11 =>
        some (IntKind.u64.wrap (r_ + (IntKind.u64.wrap e11))) >>= fun x12 =>
        if (decide (x12 ≥ 4294967296)) = true then
          (some (IntKind.u64.wrap (g - 1)))
        else
          g77_l0 n__ u u_lo u_n v (IntKind.u64.wrap (g - 1)) x12)
      else
        some g
theorem g77_l0_le : ∀ (n__ : Nat) (u : List Int) (u_lo : Nat) (u_n : Nat) (v : List Int) (g : Int) (r_ : Int), Le (g77_l0 n__ u u_lo u_n v g r_) (f77_l0 u u_lo u_n v g r_)
  | 0, _, _, _, _, _, _ => Le.none _
  | n__ + 1, u, u_lo, u_n, v, g, r_ => by
    rw [f77_l0]; unfold g77_l0
    repeat' (first | exact Le.refl _ | exact g77_l0_le _ _ _ _ _ _ _ | refine Le.bind ?_ (fun _ => ?_) | refine Le.ite ?_ ?_ | (rename_i o__; cases o__))
def g77_l1 (fuel__ : Nat) (u_lo : Nat) (u_n : Nat) (v : List Int) (o7 : Int) (l0 : List Int) (borrow : Int) (carry : Int) (v_1 : Int) : Option ((List Int) × Int × Int) := match fuel__ with
  | 0 => none
  | n__ + 1 =>
    if (decide (v_1 < (v.length : Int))) = true then
      (rd v v_1 >>= fun e16 =>
      some (IntKind.u64.wrap ((IntKind.u64.wrap (o7 * (IntKind.u64.wrap e16))) + carry)) >>= fun x17 =>
      rdo l0 u_lo u_n v_1 >>= fun e18 =>
      some (IntKind.u64.wrap ((IntKind.u64.wrap ((IntKind.u64.wrap e18) - (IntKind.u64.wrap (IntKind.u32.wrap x17)))) - borrow)) >>= fun x19 =>
      rdo l0 u_lo u_n v_1 >>= fun e20 =>
      g77_l1 n__ u_lo u_n v o7 (setO l0 u_lo v_1 (IntKind.u32.wrap x19)) (shrI .u64 x19 63) (shrI .u64 x17 32) (IntKind.i64.wrap (v_1 + 1)))
    else
      some (l0, borrow, carry)
theorem g77_l1_le : ∀ (n__ : Nat) (u_lo : Nat) (u_n : Nat) (v : List Int) (o7 : Int) (l0 : List Int) (borrow : Int) (carry : Int) (v_1 : Int), Le (g77_l1 n__ u_lo u_n v o7 l0 borrow carry v_1) (f77_l1 u_lo u_n v o7 l0 borrow carry v_1)
  | 0, _, _, _, _, _, _, _, _ => Le.none _
  | n__ + 1, u_lo, u_n, v, o7, l0, borrow, carry, v_1 => by
    rw [f77_l1]; unfold g77_l1
    repeat' (first | exact Le.refl _ | exact g77_l1_le _ _ _ _ _ _ _ _ _ | refine Le.bind ?_ (fun _ => ?_) | refine Le.ite ?_ ?_ | (rename_i o__; cases o__))
def g77_l2 (fuel__ : Nat) (u_lo : Nat) (u_n : Nat) (v : List Int) (l0 : List Int) (c : Int) (v_1 : Int) : Option ((List Int) × Int) := match fuel__ with
  | 0 => none
  | n__ + 1 =>
    if (decide (v_1 < (v.length : Int))) = true then
      (rdo l0 u_lo u_n v_1 >>= fun e27 =>
      rd v v_1 >>= fun e28 =>
      g80 n__ e27 e28 c >>= fun r29 =>
      g77_l2 n__ u_lo u_n v (setO l0 u_lo v_1 r29.1) r29.2 (IntKind.i64.wrap (v_1 + 1)))
    else
      some (l0, c)
theorem g77_l2_le : ∀ (n__ : Nat) (u_lo : Nat) (u_n : Nat) (v : List Int) (l0 : List Int) (c : Int) (v_1 : Int), Le (g77_l2 n__ u_lo u_n v l0 c v_1) (f77_l2 u_lo u_n v l0 c v_1)
  | 0, _, _, _, _, _, _ => Le.none _
  | n__ + 1, u_lo, u_n, v, l0, c, v_1 => by
    rw [f77_l2]; unfold g77_l2
    repeat' (first | exact Le.refl _ | exact g80_le _ _ _ _ | exact g77_l2_le _ _ _ _ _ _ _ | refine Le.bind ?_ (fun _ => ?_) | refine Le.ite ?_ ?_ | (rename_i o__; cases o__))
def g77 (n__ : Nat) (u : List Int) (u_lo : Nat) (u_n : Nat) (v : List Int) : Option (Int × (List Int)) :=
  rdo u u_lo u_n (v.length : Int) >>= fun e1 =>
  rdo u u_lo u_n (IntKind.i64.wrap ((v.length : Int) - 1)) >>= fun e2 =>
  some (orI .u64 (shlI .u64 (IntKind.u64.wrap e1) 32) (IntKind.u64.wrap e2)) >>= fun x3 =>
  rd v (IntKind.i64.wrap ((v.length : Int) - 1)) >>= fun e4 =>
  nz (IntKind.u64.wrap e4) >>= fun u5 =>
  nz (IntKind.u64.wrap e4) >>= fun u6 =>
  g77_l0 n__ u u_lo u_n v (quoI .u64 x3 (IntKind.u64.wrap e4)) (x3.tmod (IntKind.u64.wrap e4)) >>= fun o7 =>
  g77_l1 n__ u_lo u_n v o7 u 0 0 0 >>= fun o14 =>
  rdo o14.1 u_lo u_n (v.length : Int) >>= fun e21 =>
  some (IntKind.u64.wrap ((IntKind.u64.wrap ((IntKind.u64.wrap e21) - o14.2.2)) - o14.2.1)) >>= fun x22 =>
  rdo o14.1 u_lo u_n (v.length : Int) >>= fun e23 =>
  if ((shrI .u64 x22 63) == 0) = true then
    (some (IntKind.u32.wrap o7, setO o14.1 u_lo (v.length : Int) (IntKind.u32.wrap x22)))
  else
    g77_l2 n__ u_lo u_n v (setO o14.1 u_lo (v.length : Int) (IntKind.u32.wrap x22)) 0 0 >>= fun o25 =>
    rdo o25.1 u_lo u_n (v.length : Int) >>= fun e30 =>
    some (IntKind.u32.wrap (IntKind.u64.wrap (o7 - 1))) >>= fun x31 =>
    some (x31, setO o25.1 u_lo (v.length : Int) (IntKind.u32.wrap (e30 + o25.2)))
theorem g77_le (n__ : Nat) (u : List Int) (u_lo : Nat) (u_n : Nat) (v : List Int) : Le (g77 n__ u u_lo u_n v) (f77 u u_lo u_n v) := by
  unfold f77 g77
  repeat' (first | exact Le.refl _ | exact g77_l0_le _ _ _ _ _ _ _ | exact g77_l1_le _ _ _ _ _ _ _ _ _ | exact g77_l2_le _ _ _ _ _ _ _ | refine Le.bind ?_ (fun _ => ?_) | refine Le.ite ?_ ?_ | (rename_i o__; cases o__))
def g65_l0 (fuel__ : Nat) (r12 : List Int) (u : List Int) (q : List Int) (j : Int) : Option ((List Int) × (List Int)) := match fuel__ with
  | 0 => none
  | n__ + 1 =>
    if (decide (j ≥ 0)) = true then
      (cutL u j (IntKind.i64.wrap ((IntKind.i64.wrap (j + (r12.length : Int))) + 1)) >>= fun p20 =>
      g77 n__ u ((j).toNat) ((IntKind.i64.wrap ((IntKind.i64.wrap (j + (r12.length : Int))) + 1)).toNat - (j).toNat) r12 >>= fun r21 =>
      rd q j >>= fun e22 =>
      g65_l0 n__ r12 r21.2 (setL q j r21.1) (IntKind.i64.wrap (j - 1)))
    else
      some (u, q)
theorem g65_l0_le : ∀ (n__ : Nat) (r12 : List Int) (u : List Int) (q : List Int) (j : Int), Le (g65_l0 n__ r12 u q j) (f65_l0 r12 u q j)
  | 0, _, _, _, _ => Le.none _
  | n__ + 1, r12, u, q, j => by
    rw [f65_l0]; unfold g65_l0
    repeat' (first | exact Le.refl _ | exact g77_le _ _ _ _ _ | exact g65_l0_le _ _ _ _ _ | refine Le.bind ?_ (fun _ => ?_) | refine Le.ite ?_ ?_ | (rename_i o__; cases o__))
def g65 (n__ : Nat) (a : List Int) (b : List Int) : Option ((List Int) × (List Int)) :=
  g72 n__ a >>= fun r1 =>
  g72 n__ b >>= fun r2 =>
  g73 n__ r1 r2 >>= fun r3 =>
  if (decide (r3 < 0)) = true then
    (g62 n__ r1 >>= fun r5 =>
    some ([], r5))
  else
    if ((r2.length : Int) == 1) = true then
      (rd r2 0 >>= fun e7 =>
      g74 n__ r1 e7 >>= fun r8 =>
      g72 n__ [r8.2] >>= fun r9 =>
      some (r8.1, r9))
    else
      rd r2 (IntKind.i64.wrap ((r2.length : Int) - 1)) >>= fun e10 =>
      f75 e10 >>= fun r11 =>
      g76 n__ r2 r11 >>= fun r12 =>
      mk 4 (IntKind.i64.wrap ((r1.length : Int) + 1)) 0 >>= fun m13 =>
      g76 n__ r1 r11 >>= fun r14 =>
      cpy m13 r14 >>= fun k15 =>
      mk 4 (IntKind.i64.wrap ((IntKind.i64.wrap ((r1.length : Int) - (r2.length : Int))) + 1)) 0 >>= fun m16 =>
      some (IntKind.i64.wrap ((m16.length : Int) - 1)) >>= fun x17 =>
      g65_l0 n__ r12 k15 m16 x17 >>= fun o18 =>
      g72 n__ o18.2 >>= fun r23 =>
      g78 n__ o18.1 r11 >>= fun r24 =>
      some (r23, r24)
theorem g65_le (n__ : Nat) (a : List Int) (b : List Int) : Le (g65 n__ a b) (f65 a b) := by
  unfold f65 g65
  repeat' (first | exact Le.refl _ | exact g62_le _ _ | exact g65_l0_le _ _ _ _ _ | exact g72_le _ _ | exact g73_le _ _ _ | exact g74_le _ _ _ | exact g76_le _ _ _ | exact g78_le _ _ _ | refine Le.bind ?_ (fun _ => ?_) | refine Le.ite ?_ ?_ | (rename_i o__; cases o__))
def g63_l0 (fuel__ : Nat) (a_1 : List Int) (b_1 : List Int) : Option ((List Int)) := match fuel__ with
  | 0 => none
  | n__ + 1 =>
    if (decide ((b_1.length : Int) > 0)) = true then
      (g65 n__ a_1 b_1 >>= fun r5 =>
      g63_l0 n__  b_1 r5.2)
    else
      some a_1
theorem g63_l0_le : ∀ (n__ : Nat) (a_1 : List Int) (b_1 : List Int), Le (g63_l0 n__ a_1 b_1) (f63_l0 a_1 b_1)
  | 0, _, _ => Le.none _
  | n__ + 1, a_1, b_1 => by
    rw [f63_l0]; unfold g63_l0
    repeat' (first | exact Le.refl _ | exact g65_le _ _ _ | exact g63_l0_le _ _ _ | refine Le.bind ?_ (fun _ => ?_) | refine Le.ite ?_ ?_ | (rename_i o__; cases o__))
def g63 (n__ : Nat) (a : List Int) (b : List Int) : Option (List Int) :=
  g62 n__ a >>= fun r1 =>
  g62 n__ b >>= fun r2 =>
  g63_l0 n__ r1 r2 >>= fun o3 =>
  g62 n__ o3 >>= fun r6 =>
  some r6
theorem g63_le (n__ : Nat) (a : List Int) (b : List Int) : Le (g63 n__ a b) (f63 a b) := by
  unfold f63 g63
  repeat' (first | exact Le.refl _ | exact g62_le _ _ | exact g63_l0_le _ _ _ | refine Le.bind ?_ (fun _ => ?_) | refine Le.ite ?_ ?_ | (rename_i o__; cases o__))
def g61_l0 (fuel__ : Nat) (a : List Int) (l0 : List Int) (c : Int) (v : Int) : Option ((List Int) × Int) := match fuel__ with
  | 0 => none
  | n__ + 1 =>
    if (decide (v < (a.length : Int))) = true then
      (rd l0 v >>= fun e3 =>
      some (IntKind.u64.wrap ((IntKind.u64.wrap ((IntKind.u64.wrap e3) * 10)) + c)) >>= fun x4 =>
      rd l0 v >>= fun e5 =>
      g61_l0 n__ a (setL l0 v (IntKind.u32.wrap x4)) (shrI .u64 x4 32) (IntKind.i64.wrap (v + 1)))
    else
      some (l0, c)
theorem g61_l0_le : ∀ (n__ : Nat) (a : List Int) (l0 : List Int) (c : Int) (v : Int), Le (g61_l0 n__ a l0 c v) (f61_l0 a l0 c v)
  | 0, _, _, _, _ => Le.none _
  | n__ + 1, a, l0, c, v => by
    rw [f61_l0]; unfold g61_l0
    repeat' (first | exact Le.refl _ | exact g61_l0_le _ _ _ _ _ | refine Le.bind ?_ (fun _ => ?_) | refine Le.ite ?_ ?_ | (rename_i o__; cases o__))
def g61 (n__ : Nat) (a : List Int) (d : Int) : Option (List Int) :=
  g61_l0 n__ a a (IntKind.u64.wrap d) 0 >>= fun o1 =>
  if (decide (o1.2 > 0)) = true then
    (ap 4 o1.1 [IntKind.u32.wrap o1.2] >>= fun a7 =>
    some a7)
  else
    some o1.1
theorem g61_le (n__ : Nat) (a : List Int) (d : Int) : Le (g61 n__ a d) (f61 a d) := by
  unfold f61 g61
  repeat' (first | exact Le.refl _ | exact g61_l0_le _ _ _ _ _ | refine Le.bind ?_ (fun _ => ?_) | refine Le.ite ?_ ?_ | (rename_i o__; cases o__))
def g54_l0 (fuel__ : Nat) (s : Str) (out : List Int) (i : Int) : Option ((List Int) × Int) := match fuel__ with
  | 0 => none
  | n__ + 1 =>
    if (decide (i < (s.length : Int))) = true then
      (bt s i >>= fun b2 =>
      f53 b2 >>= fun r3 =>
      if (r3 == 2) = true then
        ((bt s i >>= fun b6 =>
        if (decide ((IntKind.u8.wrap (b6 - 48)) > 0)) = true then
          (g61 n__ out (IntKind.u32.wrap (IntKind.u8.wrap (b6 - 48))) >>= fun r7 =>
          some r7)
        else
          if (decide ((out.length : Int) > 0)) = true then
            (g61 n__ out (IntKind.u32.wrap (IntKind.u8.wrap (b6 - 48))) >>= fun r8 =>
            some r8)
          else
            some out : Option ((List Int))) >>= fun o5 =>
        g54_l0 n__ s o5 (IntKind.i64.wrap (i + 1)))
      else
        some (out, i))
    else
      some (out, i)
theorem g54_l0_le : ∀ (n__ : Nat) (s : Str) (out : List Int) (i : Int), Le (g54_l0 n__ s out i) (f54_l0 s out i)
  | 0, _, _, _ => Le.none _
  | n__ + 1, s, out, i => by
    rw [f54_l0]; unfold g54_l0
    repeat' (first | exact Le.refl _ | exact g61_le _ _ _ | exact g54_l0_le _ _ _ _ | refine Le.bind ?_ (fun _ => ?_) | refine Le.ite ?_ ?_ | (rename_i o__; cases o__))
def g54 (n__ : Nat) (s : Str) (at_ : Int) : Option ((List Int) × Int × Bool) :=
  g54_l0 n__ s [] at_ >>= fun o1 =>
  some (o1.1, o1.2, decide (o1.2 > at_))
theorem g54_le (n__ : Nat) (s : Str) (at_ : Int) : Le (g54 n__ s at_) (f54 s at_) := by
  unfold f54 g54
  repeat' (first | exact Le.refl _ | exact g54_l0_le _ _ _ _ | refine Le.bind ?_ (fun _ => ?_) | refine Le.ite ?_ ?_ | (rename_i o__; cases o__))
def g55 (n__ : Nat) (neg : Bool) (num : List Int) (den : List Int) : Option (Ratio × Int) :=
  g62 n__ num >>= fun r1 =>
  g62 n__ den >>= fun r2 =>
  if ((r2.length : Int) == 0) = true then
    (some ((⟨false, [], []⟩ : Ratio), 10))
  else
    if ((r1.length : Int) == 0) = true then
      (some ((⟨false, [], [1]⟩ : Ratio), 0))
    else
      g63 n__ r1 r2 >>= fun r5 =>
      g64 n__ r5 >>= fun r6 =>
      if (!r6) = true then
        (g65 n__ r1 r5 >>= fun r8 =>
        g65 n__ r2 r5 >>= fun r9 =>
        if (decide ((r8.1.length : Int) > 16)) = true then
          (some ((⟨false, [], []⟩ : Ratio), 4))
        else
          if (decide ((r9.1.length : Int) > 16)) = true then
            (some ((⟨false, [], []⟩ : Ratio), 4))
          else
            some ((⟨neg, r8.1, r9.1⟩ : Ratio), 0))
      else
        if (decide ((r1.length : Int) > 16)) = true then
          (some ((⟨false, [], []⟩ : Ratio), 4))
        else
          if (decide ((r2.length : Int) > 16)) = true then
            (some ((⟨false, [], []⟩ : Ratio), 4))
          else
            some ((⟨neg, r1, r2⟩ : Ratio), 0)
theorem g55_le (n__ : Nat) (neg : Bool) (num : List Int) (den : List Int) : Le (g55 n__ neg num den) (f55 neg num den) := by
  unfold f55 g55
  repeat' (first | exact Le.refl _ | exact g62_le _ _ | exact g63_le _ _ _ | exact g64_le _ _ | exact g65_le _ _ _ | refine Le.bind ?_ (fun _ => ?_) | refine Le.ite ?_ ?_ | (rename_i o__; cases o__))
def g45 (n__ : Nat) (s : Str) : Option (Ratio × Int) :=
  if (decide ((s.length : Int) > 4096)) = true then
    (some ((⟨false, [], []⟩ : Ratio), 3))
  else
    (if (s != []) = true then
      (bt s 0 >>= fun b3 =>
      f53 b3 >>= fun r4 =>
      if (r4 == 1) = true then
        (bt s 0 >>= fun b6 =>
        some (b6 == 45, 1))
      else
        some (false, 0))
    else
      some (false, 0) : Option (Bool × Int)) >>= fun o2 =>
    g54 n__ s o2.2 >>= fun r3 =>
    if (!r3.2.2) = true then
      (some ((⟨false, [], []⟩ : Ratio), 21))
    else
      if (decide (r3.2.1 < (s.length : Int))) = true then
        (bt s r3.2.1 >>= fun b6 =>
        f53 b6 >>= fun r7 =>
        if (r7 != 3) = true then
          (some ((⟨false, [], []⟩ : Ratio), 21))
        else
          g54 n__ s (IntKind.i64.wrap (r3.2.1 + 1)) >>= fun r9 =>
          if (!r9.2.2) = true then
            (some ((⟨false, [], []⟩ : Ratio), 21))
          else
            if (decide (r9.2.1 < (s.length : Int))) = true then
              (some ((⟨false, [], []⟩ : Ratio), 21))
            else
              if ((r9.1.length : Int) == 0) = true then
                (some ((⟨false, [], []⟩ : Ratio), 21))
              else
                g55 n__ o2.1 r3.1 r9.1 >>= fun r11 =>
                some ((⟨r11.1.Neg, r11.1.Num, r11.1.Den⟩ : Ratio), r11.2))
      else
        g55 n__ o2.1 r3.1 [1] >>= fun r12 =>
        some ((⟨r12.1.Neg, r12.1.Num, r12.1.Den⟩ : Ratio), r12.2)
theorem g45_le (n__ : Nat) (s : Str) : Le (g45 n__ s) (f45 s) := by
  unfold f45 g45
  repeat' (first | exact Le.refl _ | exact g54_le _ _ _ | exact g55_le _ _ _ _ | refine Le.bind ?_ (fun _ => ?_) | refine Le.ite ?_ ?_ | (rename_i o__; cases o__))
def g37 (n__ : Nat) (c : Int) : Option (Bool) :=
  (if (decide (c ≥ 97)) = true then
    (if (decide (c ≤ 122)) = true then
      (some true)
    else
      if (decide (c ≥ 65)) = true then
        (if (decide (c ≤ 90)) = true then
          (some true)
        else
          f19 [33, 36, 37, 38, 42, 47, 58, 60, 61, 62, 63, 94, 95, 126] c >>= fun r2 =>
          some (decide (r2 ≥ 0)))
      else
        f19 [33, 36, 37, 38, 42, 47, 58, 60, 61, 62, 63, 94, 95, 126] c >>= fun r2 =>
        some (decide (r2 ≥ 0)))
  else
    if (decide (c ≥ 65)) = true then
      (if (decide (c ≤ 90)) = true then
        (some true)
      else
        f19 [33, 36, 37, 38, 42, 47, 58, 60, 61, 62, 63, 94, 95, 126] c >>= fun r2 =>
        some (decide (r2 ≥ 0)))
    else
      f19 [33, 36, 37, 38, 42, 47, 58, 60, 61, 62, 63, 94, 95, 126] c >>= fun r2 =>
      some (decide (r2 ≥ 0)) : Option (Bool)) >>= fun o1 =>
  some o1
theorem g37_le (n__ : Nat) (c : Int) : Le (g37 n__ c) (f37 c) := by
  unfold f37 g37
  repeat' (first | exact Le.refl _ | refine Le.bind ?_ (fun _ => ?_) | refine Le.ite ?_ ?_ | (rename_i o__; cases o__))
def g18 (n__ : Nat) (c : Int) : Option (Int) :=
  f19 [40, 41, 39] c >>= fun r1 =>
  some (IntKind.i64.wrap (1 + r1))
theorem g18_le (n__ : Nat) (c : Int) : Le (g18 n__ c) (f18 c) := by
  unfold f18 g18
  repeat' (first | exact Le.refl _ | refine Le.bind ?_ (fun _ => ?_) | refine Le.ite ?_ ?_ | (rename_i o__; cases o__))
def g24_l0 (fuel__ : Nat) (s : Str) (i : Int) : Option (Ou Bool Unit) := match fuel__ with
  | 0 => none
  | n__ + 1 =>
    if (decide (i < (s.length : Int))) = true then
      ((bt s i >>= fun b8 =>
      g37 n__ b8 >>= fun r9 =>
      if (!r9) = true then
        (f19 [48, 49, 50, 51, 52, 53, 54, 55, 56, 57, 43, 45, 46, 64] b8 >>= fun r10 =>
        if (decide (r10 < 0)) = true then
          (some (.ret false))
        else
          some (.nxt ()))
      else
        some (.nxt ()) : Option (Ou Bool Unit)) >>= fun o7 => match o7 with
      | .ret r0 => some (.ret r0)
      | .nxt wo7 =>
        g24_l0 n__ s (IntKind.i64.wrap (i + 1)))
    else
      some (.nxt ())
theorem g24_l0_le : ∀ (n__ : Nat) (s : Str) (i : Int), Le (g24_l0 n__ s i) (f24_l0 s i)
  | 0, _, _ => Le.none _
  | n__ + 1, s, i => by
    rw [f24_l0]; unfold g24_l0
    repeat' (first | exact Le.refl _ | exact g37_le _ _ | exact g24_l0_le _ _ _ | refine Le.bind ?_ (fun _ => ?_) | refine Le.ite ?_ ?_ | (rename_i o__; cases o__))
def g24 (n__ : Nat) (s : Str) : Option (Bool) :=
  if (s == [43]) = true then
    (some true)
  else
    if (s == [45]) = true then
      (some true)
    else
      if (s == []) = true then
        (some false)
      else
        bt s 0 >>= fun b2 =>
        g37 n__ b2 >>= fun r3 =>
        if (!r3) = true then
          (some false)
        else
          g24_l0 n__ s 1 >>= fun o5 => match o5 with
          | .ret r0 => some r0
          | .nxt wo5 =>
            some true
theorem g24_le (n__ : Nat) (s : Str) : Le (g24 n__ s) (f24 s) := by
  unfold f24 g24
  repeat' (first | exact Le.refl _ | exact g24_l0_le _ _ _ | exact g37_le _ _ | refine Le.bind ?_ (fun _ => ?_) | refine Le.ite ?_ ?_ | (rename_i o__; cases o__))
def g14 (n__ : Nat) (s : Str) : Option (Bool) :=
  (if (decide ((s.length : Int) ≤ 32)) = true then
    (g24 n__ s >>= fun r2 =>
    some r2)
  else
    some false : Option (Bool)) >>= fun o1 =>
  some o1
theorem g14_le (n__ : Nat) (s : Str) : Le (g14 n__ s) (f14 s) := by
  unfold f14 g14
  repeat' (first | exact Le.refl _ | exact g24_le _ _ | refine Le.bind ?_ (fun _ => ?_) | refine Le.ite ?_ ?_ | (rename_i o__; cases o__))
def g33 (n__ : Nat) (s : Str) : Option (Token × Int) :=
  if (s == [46]) = true then
    (some ((⟨4, s, (⟨false, [], []⟩ : Ratio), 0⟩ : Token), 0))
  else
    if (s == [35, 116]) = true then
      (some ((⟨6, s, (⟨false, [], []⟩ : Ratio), 0⟩ : Token), 0))
    else
      if (s == [35, 102]) = true then
        (some ((⟨6, s, (⟨false, [], []⟩ : Ratio), 0⟩ : Token), 0))
      else
        g45 n__ s >>= fun r3 =>
        if (r3.2 == 0) = true then
          (some ((⟨5, s, (⟨r3.1.Neg, r3.1.Num, r3.1.Den⟩ : Ratio), 0⟩ : Token), r3.2))
        else
          if (r3.2 == 4) = true then
            (some ((⟨5, s, (⟨r3.1.Neg, r3.1.Num, r3.1.Den⟩ : Ratio), 0⟩ : Token), r3.2))
          else
            g24 n__ s >>= fun r5 =>
            if (!r5) = true then
              (some ((⟨0, s, (⟨false, [], []⟩ : Ratio), 0⟩ : Token), 40))
            else
              if (decide ((s.length : Int) > 32)) = true then
                (some ((⟨0, s, (⟨false, [], []⟩ : Ratio), 0⟩ : Token), 3))
              else
                some ((⟨7, s, (⟨false, [], []⟩ : Ratio), 0⟩ : Token), 0)
theorem g33_le (n__ : Nat) (s : Str) : Le (g33 n__ s) (f33 s) := by
  unfold f33 g33
  repeat' (first | exact Le.refl _ | exact g24_le _ _ | exact g45_le _ _ | refine Le.bind ?_ (fun _ => ?_) | refine Le.ite ?_ ?_ | (rename_i o__; cases o__))
def g20 (n__ : Nat) (out : List Token) (text : Str) (i : Int) : Option (Int × (List Token) × Int) :=
  cutL text i (text.length : Int) >>= fun p1 =>
  f32 p1 [32, 9, 10, 13, 59, 40, 41, 39] >>= fun r2 =>
  if (decide (r2 < 0)) = true then
    (some (IntKind.i64.wrap ((text.length : Int) - i)) >>= fun x4 =>
    cutL text i (IntKind.i64.wrap (i + x4)) >>= fun p5 =>
    g33 n__ p5 >>= fun r6 =>
    if (r6.2 != 0) = true then
      (some (r6.2, out, i))
    else
      ap 88 out [(⟨r6.1.Kind, r6.1.Text, (⟨r6.1.N.Neg, r6.1.N.Num, r6.1.N.Den⟩ : Ratio), i⟩ : Token)] >>= fun a8 =>
      some (0, a8, IntKind.i64.wrap (i + x4)))
  else
    cutL text i (IntKind.i64.wrap (i + r2)) >>= fun p9 =>
    g33 n__ p9 >>= fun r10 =>
    if (r10.2 != 0) = true then
      (some (r10.2, out, i))
    else
      ap 88 out [(⟨r10.1.Kind, r10.1.Text, (⟨r10.1.N.Neg, r10.1.N.Num, r10.1.N.Den⟩ : Ratio), i⟩ : Token)] >>= fun a12 =>
      some (0, a12, IntKind.i64.wrap (i + r2))
theorem g20_le (n__ : Nat) (out : List Token) (text : Str) (i : Int) : Le (g20 n__ out text i) (f20 out text i) := by
  unfold f20 g20
  repeat' (first | exact Le.refl _ | exact g33_le _ _ | refine Le.bind ?_ (fun _ => ?_) | refine Le.ite ?_ ?_ | (rename_i o__; cases o__))
def g11_l0 (fuel__ : Nat) (text : Str) (i_0_1 : Int) : Option (Int) := match fuel__ with
  | 0 => none
  | n__ + 1 =>
    if (decide (i_0_1 < (text.length : Int))) = true then
      (bt text i_0_1 >>= fun b6 =>
      if (b6 != 10) = true then
        (g11_l0 n__ text (IntKind.i64.wrap (i_0_1 + 1)))
      else
        some i_0_1)
    else
      some i_0_1
theorem g11_l0_le : ∀ (n__ : Nat) (text : Str) (i_0_1 : Int), Le (g11_l0 n__ text i_0_1) (f11_l0 text i_0_1)
  | 0, _, _ => Le.none _
  | n__ + 1, text, i_0_1 => by
    rw [f11_l0]; unfold g11_l0
    repeat' (first | exact Le.refl _ | exact g11_l0_le _ _ _ | refine Le.bind ?_ (fun _ => ?_) | refine Le.ite ?_ ?_ | (rename_i o__; cases o__))
def g11_g0 (fuel__ : Nat) (text : Str) (out_0 : List Token) (i_0 : Int) : Option ((List Token) × Int × Int) := match fuel__ with
  | 0 => none
  | n__ + 1 =>
    if (i_0 == (text.length : Int)) = true then
      (some (out_0, 0, 0))
    else
      bt text i_0 >>= fun b3 =>
      if (b3 == 59) = true then
        (g11_l0 n__ text i_0 >>= fun o5 =>
        g11_g0 n__ text out_0 o5)
      else
        g18 n__ b3 >>= fun r6 =>
        if (decide (r6 > 0)) = true then
          (cutL text i_0 (IntKind.i64.wrap (i_0 + 1)) >>= fun p8 =>
          ap 88 out_0 [(⟨r6, p8, (⟨false, [], []⟩ : Ratio), i_0⟩ : Token)] >>= fun a9 =>
          g11_g0 n__ text a9 (IntKind.i64.wrap (i_0 + 1)))
        else
          f19 [32, 9, 10, 13, 59, 40, 41, 39] b3 >>= fun r10 =>
          if (decide (r10 ≥ 0)) = true then
            (g11_g0 n__ text out_0 (IntKind.i64.wrap (i_0 + 1)))
          else
            g20 n__ out_0 text i_0 >>= fun r12 =>
            if (r12.1 != 0) = true then
              (some ([], r12.2.2, r12.1))
            else
              g11_g0 n__ text r12.2.1 r12.2.2
theorem g11_g0_le : ∀ (n__ : Nat) (text : Str) (out_0 : List Token) (i_0 : Int), Le (g11_g0 n__ text out_0 i_0) (f11_g0 text out_0 i_0)
  | 0, _, _, _ => Le.none _
  | n__ + 1, text, out_0, i_0 => by
    rw [f11_g0]; unfold g11_g0
    repeat' (first | exact Le.refl _ | exact g11_l0_le _ _ _ | exact g18_le _ _ | exact g20_le _ _ _ _ | exact g11_g0_le _ _ _ _ | refine Le.bind ?_ (fun _ => ?_) | refine Le.ite ?_ ?_ | (rename_i o__; cases o__))
def g11 (n__ : Nat) (text : Str) : Option ((List Token) × Int × Int) :=
  if (decide ((text.length : Int) > 4096)) = true then
    (some ([], 0, 3))
  else
    g11_g0 n__ text [] 0
theorem g11_le (n__ : Nat) (text : Str) : Le (g11 n__ text) (f11 text) := by
  unfold f11 g11
  repeat' (first | exact Le.refl _ | exact g11_g0_le _ _ _ _ | refine Le.bind ?_ (fun _ => ?_) | refine Le.ite ?_ ?_ | (rename_i o__; cases o__))
def g26 (n__ : Nat) (t : Token) : Option (Bool) :=
  g11 n__ t.Text >>= fun r1 =>
  (if (r1.2.2 == 0) = true then
    (if ((r1.1.length : Int) == 1) = true then
      (rd r1.1 0 >>= fun e3 =>
      if (e3.Kind == t.Kind) = true then
        (some (e3.Text == t.Text))
      else
        some false)
    else
      some false)
  else
    some false : Option (Bool)) >>= fun o2 =>
  some o2
theorem g26_le (n__ : Nat) (t : Token) : Le (g26 n__ t) (f26 t) := by
  unfold f26 g26
  repeat' (first | exact Le.refl _ | exact g11_le _ _ | refine Le.bind ?_ (fun _ => ?_) | refine Le.ite ?_ ?_ | (rename_i o__; cases o__))
def g27 (n__ : Nat) (b : List Int) (c : Int) : Option (List Int) :=
  ap 1 b [c] >>= fun a1 =>
  some a1
theorem g27_le (n__ : Nat) (b : List Int) (c : Int) : Le (g27 n__ b c) (f27 b c) := by
  unfold f27 g27
  repeat' (first | exact Le.refl _ | refine Le.bind ?_ (fun _ => ?_) | refine Le.ite ?_ ?_ | (rename_i o__; cases o__))
def g28 (n__ : Nat) (b : List Int) (s : Str) : Option (Int × (List Int)) :=
  ap 1 b (bts s) >>= fun a1 =>
  some ((s.length : Int), a1)
theorem g28_le (n__ : Nat) (b : List Int) (s : Str) : Le (g28 n__ b s) (f28 b s) := by
  unfold f28 g28
  repeat' (first | exact Le.refl _ | refine Le.bind ?_ (fun _ => ?_) | refine Le.ite ?_ ?_ | (rename_i o__; cases o__))
def g16_l0 (fuel__ : Nat) (ts : List Token) (v : Int) : Option (Ou (Str × Int) Unit) := match fuel__ with
  | 0 => none
  | n__ + 1 =>
    if (decide (v < (ts.length : Int))) = true then
      (rd ts v >>= fun e3 =>
      g26 n__ (⟨e3.Kind, e3.Text, (⟨e3.N.Neg, e3.N.Num, e3.N.Den⟩ : Ratio), e3.At⟩ : Token) >>= fun r4 =>
      if (!r4) = true then
        (some (.ret ([], 40)))
      else
        g16_l0 n__ ts (IntKind.i64.wrap (v + 1)))
    else
      some (.nxt ())
theorem g16_l0_le : ∀ (n__ : Nat) (ts : List Token) (v : Int), Le (g16_l0 n__ ts v) (f16_l0 ts v)
  | 0, _, _ => Le.none _
  | n__ + 1, ts, v => by
    rw [f16_l0]; unfold g16_l0
    repeat' (first | exact Le.refl _ | exact g26_le _ _ | exact g16_l0_le _ _ _ | refine Le.bind ?_ (fun _ => ?_) | refine Le.ite ?_ ?_ | (rename_i o__; cases o__))
def g16_l1 (fuel__ : Nat) (ts : List Token) (n : Int) (b_b : List Int) (v : Int) : Option (Ou (Str × Int) ((List Int))) := match fuel__ with
  | 0 => none
  | n__ + 1 =>
    if (decide (v < (ts.length : Int))) = true then
      ((rd ts v >>= fun e9 =>
      if (decide (v > 0)) = true then
        (g27 n__ b_b 32 >>= fun r11 =>
        some (IntKind.i64.wrap ((IntKind.i64.wrap (n + 1)) + (e9.Text.length : Int))) >>= fun x12 =>
        if (decide (x12 > 4096)) = true then
          (some (.ret ([], 3)))
        else
          g28 n__ r11 e9.Text >>= fun r14 =>
          some (.nxt (x12, r14.2)))
      else
        some (IntKind.i64.wrap (n + (e9.Text.length : Int))) >>= fun x15 =>
        if (decide (x15 > 4096)) = true then
          (some (.ret ([], 3)))
        else
          g28 n__ b_b e9.Text >>= fun r17 =>
          some (.nxt (x15, r17.2)) : Option (Ou (Str × Int) (Int × (List Int)))) >>= fun o8 => match o8 with
      | .ret r0 => some (.ret r0)
      | .nxt wo8 =>
        g16_l1 n__ ts wo8.1 wo8.2 (IntKind.i64.wrap (v + 1)))
    else
      some (.nxt b_b)
theorem g16_l1_le : ∀ (n__ : Nat) (ts : List Token) (n : Int) (b_b : List Int) (v : Int), Le (g16_l1 n__ ts n b_b v) (f16_l1 ts n b_b v)
  | 0, _, _, _, _ => Le.none _
  | n__ + 1, ts, n, b_b, v => by
    rw [f16_l1]; unfold g16_l1
    repeat' (first | exact Le.refl _ | exact g27_le _ _ _ | exact g28_le _ _ _ | exact g16_l1_le _ _ _ _ _ | refine Le.bind ?_ (fun _ => ?_) | refine Le.ite ?_ ?_ | (rename_i o__; cases o__))
def g16 (n__ : Nat) (ts : List Token) : Option (Str × Int) :=
  g16_l0 n__ ts 0 >>= fun o1 => match o1 with
  | .ret r0 => some r0
  | .nxt wo1 =>
    g16_l1 n__ ts 0 [] 0 >>= fun o6 => match o6 with
    | .ret r0 => some r0
    | .nxt wo6 =>
      f29 wo6 >>= fun r18 =>
      some (r18, 0)
theorem g16_le (n__ : Nat) (ts : List Token) : Le (g16 n__ ts) (f16 ts) := by
  unfold f16 g16
  repeat' (first | exact Le.refl _ | exact g16_l0_le _ _ _ | exact g16_l1_le _ _ _ _ _ | refine Le.bind ?_ (fun _ => ?_) | refine Le.ite ?_ ?_ | (rename_i o__; cases o__))
def g10 (n__ : Nat)  : Option (Bool) :=
  g11 n__ [40, 97, 32, 46, 32, 39, 98, 41, 32, 59, 32, 120, 10, 45, 49, 47, 50] >>= fun r1 =>
  g11 n__ [97, 32, 53, 120] >>= fun r2 =>
  if (r1.2.2 != 0) = true then
    (some false)
  else
    if (r1.2.1 != 0) = true then
      (some false)
    else
      if ((r1.1.length : Int) != 7) = true then
        (some false)
      else
        if (r2.2.2 != 40) = true then
          (some false)
        else
          if (r2.2.1 != 2) = true then
            (some false)
          else
            g16 n__ r1.1 >>= fun r4 =>
            (if (r4.2 == 0) = true then
              (if (r4.1 == [40, 32, 97, 32, 46, 32, 39, 32, 98, 32, 41, 32, 45, 49, 47, 50]) = true then
                (rd r1.1 6 >>= fun e6 =>
                if (e6.Kind == 5) = true then
                  (if (e6.At == 13) = true then
                    (g14 n__ [115, 101, 116, 45, 99, 97, 114, 33] >>= fun r7 =>
                    if r7 = true then
                      (g14 n__ [49, 97] >>= fun r8 =>
                      some (!r8))
                    else
                      some false)
                  else
                    some false)
                else
                  some false)
              else
                some false)
            else
              some false : Option (Bool)) >>= fun o5 =>
            some o5
theorem g10_le (n__ : Nat)  : Le (g10 n__ ) (f10 ) := by
  unfold f10 g10
  repeat' (first | exact Le.refl _ | exact g11_le _ _ | exact g14_le _ _ | exact g16_le _ _ | refine Le.bind ?_ (fun _ => ?_) | refine Le.ite ?_ ?_ | (rename_i o__; cases o__))
end Go.Bx.Scan

/- Layer 04: the scanner wakes. (Own text.) -/
namespace Go.Bx.Scan
set_option linter.unusedVariables false
set_option linter.unusedSimpArgs false
set_option linter.unusedSectionVars false
open Go.Proofs
set_option maxRecDepth 100000 in
theorem g10_ok : g10 60 = some true := by decide
theorem f10_eq : f10 = some true := g10_le _ _ g10_ok
end Go.Bx.Scan

/- ScanNames: for every input that the statement speaks of the law returns true and leaves what it was handed. (Own text.) -/
namespace Go.Bx.Scan
set_option linter.unusedVariables false
set_option linter.unusedSimpArgs false
set_option linter.unusedSectionVars false
open Go.Proofs Go.Proofs.Ytgnhnfaojpjieaa
open Go.ChangeShapes Go.WideShapes Go.ChangeAt Go.RowKit
set_option linter.unusedVariables false
theorem own_ : ownKnob Try.prog.godebug = none := by kernel_rfl
theorem laidOut : laidOutB Try.prog = true := by kernel_rfl
theorem f4_eq (s : Str) (hl : s.length < 9223372036854775807) : f4 s = some true := by
  unfold f4
  rw [f10_eq]
  simp only [bind_ok, f14_eq, f15_eq s hl, Bool.not_true, Bool.false_eq_true, if_false, beq_self_eq_true]
end Go.Bx.Scan
namespace Go.Proofs.Ytgnhnfaojpjieaa
set_option linter.unusedVariables false
set_option linter.unusedSimpArgs false
set_option linter.unusedSectionVars false
open Go.Bx Go.Bx.Scan
open Go.Proofs Go.ChangeShapes Go.WideShapes Go.ChangeAt Go.RowKit
set_option linter.unusedVariables false

set_option maxRecDepth 100000 in
theorem lifted4 (os : Os) (started : os.Started) (H : Type) (enc : TypeId × Value → H) :
    ReturnsInHanded {} Try.checked os 4 .any (Rows.scanNamesSpec.pre6 enc Try.prog Try.f4 Rows.scanNamesRow.domain false) (Rows.scanNamesSpec.post enc Try.prog Try.f4 false true false false) := by
  refine returnsInHanded_of_change_sized (C := Try.checked) own_ started (by kernel_rfl) Try.func4
    (ChangeSpec.witness6 (enc := enc) (C := Try.checked) false ⟨#[], #[.string ByteArray.empty], []⟩ 8 (by kernel_rfl) (by kernel_rfl) (by kernel_rfl) (by kernel_rfl)) ?_
  intro W base args ds gs before hval0 hW hcnd hsz0 _
  have hsz : (DataW.weightsEach Try.prog (Try.f4.params.toList ++ Rows.scanNamesSpec.plain.varTypes Try.prog) (ds ++ gs)).all (· ≤ reachBytes) = true := hsz0
  have hval : ∀ (j : Nat) t v, Try.f4.params[j]? = some t → args[j]? = some v → Value.okWide Try.prog W .any base t v := hval0
  have hW' := hW
  obtain ⟨p, q, hA0, hV, rfl, hfz, hnd⟩ := hW
  have hA : DataW.TrodAll enc Try.prog W 0 (fun _ => true) true Try.f4.params.toList args.toList ds p := hA0
  rw [Try.params4] at hA hval hsz
  obtain ⟨v0, vs0, d0, ds0, p0, q0, hargs, rfl, rfl, h0, r0⟩ := trodAll_cons hA
  obtain ⟨rfl, rfl, rfl⟩ := trodAll_nil r0
  obtain rfl : args = #[v0] := by cases args; simp_all
  obtain ⟨rfl, rfl⟩ := trodVars_none hV
  have lt0 : ∀ x ∈ p0, x.block < W.heap.size := by obtain ⟨m, hm⟩ := h0; exact DataW.trod_lt m _ _ _ hm
  have k0 := h0
  have wt : ∀ (j : Nat) t (d : DataW H), ([9] : List Nat)[j]? = some t → [d0][j]? = some d → ∀ z ∈ d.weights Try.prog t, z ≤ reachBytes := by
    intro j t d ht hd z hz
    have := List.all_eq_true.1 hsz z (DataW.weights_mem_each (j := j) (t := t) (d := d) (by rw [List.getElem?_append_left]; exact ht; exact (List.getElem?_eq_some_iff.1 ht).1) (by rw [List.getElem?_append_left]; exact hd; exact (List.getElem?_eq_some_iff.1 hd).1) z hz)
    simpa using this
  obtain ⟨t0, rfl⟩ := okWide_string Try.underlying9 (hval 0 9 v0 rfl rfl)
  obtain ⟨m0, hm0⟩ := h0
  obtain ⟨xs0, e0, _, s0⟩ := read_rep tabOK 8 9 (by decide) m0 _ _ hm0 (wt 0 9 d0 rfl rfl)
  obtain ⟨x0, rfl, b0⟩ := shape_str (T := tab) (t := 9) rfl s0
  have hcall := f4_ok x0 true (f4_eq x0 (Nat.lt_of_le_of_lt b0 (by decide)))
  refine (law_pure (E := E) (W := W) (fun _ => .junk) hcall (e0)).mono fun e W' ⟨he, bel⟩ => ?_
  subst he
  exact ⟨_, rfl, _, _, _, [], _, [], hW', trodAll_mk1 (shut_bool Try.underlying4 _), (trodAll_cons_mk (Below.trod laidOut (by kernel_rfl) (of_decide_eq_true (by kernel_rfl)) k0 bel lt0) trodAll_mk0), rfl, bel.frame _, fun h => by cases h⟩

theorem over4 : Rows.scanNamesRow.holds Try.pinned (OpenSpec.ofChange Rows.scanNamesSpec) :=
  OpenClaim.holds_of_wide 4 Try.f4 rfl rfl rfl rfl rfl rfl rfl ⟨rfl, rfl, rfl, rfl, rfl⟩ rfl rfl rfl rfl rfl (by kernel_rfl) Try.func4 (by kernel_rfl)
    (of_decide_eq_true (by kernel_rfl)) (by unfold Func.isWrapper; first | (rw [if_pos (by decide +kernel)]; kernel_rfl) | (rw [if_neg (by decide +kernel)]; exact ⟨rfl, rfl⟩))
    (fun os started H enc _ => lifted4 os started H enc)
/-- ScanNames, as the statement says. -/
theorem scanNames_holds : Rows.ScanNamesSaid := over4
#print axioms scanNames_holds
end Go.Proofs.Ytgnhnfaojpjieaa
