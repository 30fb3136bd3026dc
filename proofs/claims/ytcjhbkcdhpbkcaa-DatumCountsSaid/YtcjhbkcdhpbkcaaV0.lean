/- What the program's functions compute, shown of their code (V0). Own text; parts are printed by a program of this claim's author. -/
import Derived.Test.YtcjhbkcdhpbkcaaWa
import Derived.WalkKit
/- ratio.class: by hand, for its table is an array. (Own text.) -/
namespace Go.Bx.Dat
set_option linter.unusedVariables false
set_option linter.unusedSimpArgs false
set_option linter.unusedSectionVars false
open Go.Proofs Go.RowKit
set_option linter.unusedVariables false
set_option linter.unusedSimpArgs false

/-- sibyl/ratio.class -/
def clsOf (c : Int) : Int := if c = 43 ∨ c = 45 then 1 else if c = 47 then 3 else if 48 ≤ c ∧ c ≤ 57 then 2 else 0
def F108 (c : Int) : Option Int := if 0 ≤ c ∧ c ≤ 255 then some (clsOf c) else none
set_option maxHeartbeats 1000000 in
theorem class_out (c : Int) (w : World) (h0 : 0 ≤ c) (h1 : c ≤ 255) (h : c < 43 ∨ 57 < c) : Calls Try.prog 108 #[.int .u8 c] w fun e w' => e = .returned (.int .i64 0) ∧ Below w.heap.size w w' := by
  rcases h with h | h
  · go_enter Try.func108, Try.ntmps108
    go_wp2
    go_ret
    exact ⟨rfl, (Below.refl _ _).alloc (Nat.le_refl _) _⟩
  · have h' : ¬ c < 43 := by omega
    go_enter Try.func108, Try.ntmps108
    go_wp2
    go_ret
    exact ⟨rfl, (Below.refl _ _).alloc (Nat.le_refl _) _⟩
theorem cls_ret {a b : Int} (h : a = b) : Ending.returned (.int .i64 a) = .returned (.int .i64 b) := by rw [h]
theorem class_43 (w : World) : Calls Try.prog 108 #[.int .u8 43] w fun e w' => e = .returned (.int .i64 1) ∧ Below w.heap.size w w' := by
  go_enter Try.func108, Try.ntmps108
  go_wp2
  go_ret
  exact ⟨rfl, (Below.refl _ _).alloc (Nat.le_refl _) _⟩
theorem class_44 (w : World) : Calls Try.prog 108 #[.int .u8 44] w fun e w' => e = .returned (.int .i64 0) ∧ Below w.heap.size w w' := by
  go_enter Try.func108, Try.ntmps108
  go_wp2
  go_ret
  exact ⟨rfl, (Below.refl _ _).alloc (Nat.le_refl _) _⟩
theorem class_45 (w : World) : Calls Try.prog 108 #[.int .u8 45] w fun e w' => e = .returned (.int .i64 1) ∧ Below w.heap.size w w' := by
  go_enter Try.func108, Try.ntmps108
  go_wp2
  go_ret
  exact ⟨rfl, (Below.refl _ _).alloc (Nat.le_refl _) _⟩
theorem class_46 (w : World) : Calls Try.prog 108 #[.int .u8 46] w fun e w' => e = .returned (.int .i64 0) ∧ Below w.heap.size w w' := by
  go_enter Try.func108, Try.ntmps108
  go_wp2
  go_ret
  exact ⟨rfl, (Below.refl _ _).alloc (Nat.le_refl _) _⟩
theorem class_47 (w : World) : Calls Try.prog 108 #[.int .u8 47] w fun e w' => e = .returned (.int .i64 3) ∧ Below w.heap.size w w' := by
  go_enter Try.func108, Try.ntmps108
  go_wp2
  go_ret
  exact ⟨rfl, (Below.refl _ _).alloc (Nat.le_refl _) _⟩
theorem class_48 (w : World) : Calls Try.prog 108 #[.int .u8 48] w fun e w' => e = .returned (.int .i64 2) ∧ Below w.heap.size w w' := by
  go_enter Try.func108, Try.ntmps108
  go_wp2
  go_ret
  exact ⟨rfl, (Below.refl _ _).alloc (Nat.le_refl _) _⟩
theorem class_49 (w : World) : Calls Try.prog 108 #[.int .u8 49] w fun e w' => e = .returned (.int .i64 2) ∧ Below w.heap.size w w' := by
  go_enter Try.func108, Try.ntmps108
  go_wp2
  go_ret
  exact ⟨rfl, (Below.refl _ _).alloc (Nat.le_refl _) _⟩
theorem class_50 (w : World) : Calls Try.prog 108 #[.int .u8 50] w fun e w' => e = .returned (.int .i64 2) ∧ Below w.heap.size w w' := by
  go_enter Try.func108, Try.ntmps108
  go_wp2
  go_ret
  exact ⟨rfl, (Below.refl _ _).alloc (Nat.le_refl _) _⟩
theorem class_51 (w : World) : Calls Try.prog 108 #[.int .u8 51] w fun e w' => e = .returned (.int .i64 2) ∧ Below w.heap.size w w' := by
  go_enter Try.func108, Try.ntmps108
  go_wp2
  go_ret
  exact ⟨rfl, (Below.refl _ _).alloc (Nat.le_refl _) _⟩
theorem class_52 (w : World) : Calls Try.prog 108 #[.int .u8 52] w fun e w' => e = .returned (.int .i64 2) ∧ Below w.heap.size w w' := by
  go_enter Try.func108, Try.ntmps108
  go_wp2
  go_ret
  exact ⟨rfl, (Below.refl _ _).alloc (Nat.le_refl _) _⟩
theorem class_53 (w : World) : Calls Try.prog 108 #[.int .u8 53] w fun e w' => e = .returned (.int .i64 2) ∧ Below w.heap.size w w' := by
  go_enter Try.func108, Try.ntmps108
  go_wp2
  go_ret
  exact ⟨rfl, (Below.refl _ _).alloc (Nat.le_refl _) _⟩
theorem class_54 (w : World) : Calls Try.prog 108 #[.int .u8 54] w fun e w' => e = .returned (.int .i64 2) ∧ Below w.heap.size w w' := by
  go_enter Try.func108, Try.ntmps108
  go_wp2
  go_ret
  exact ⟨rfl, (Below.refl _ _).alloc (Nat.le_refl _) _⟩
theorem class_55 (w : World) : Calls Try.prog 108 #[.int .u8 55] w fun e w' => e = .returned (.int .i64 2) ∧ Below w.heap.size w w' := by
  go_enter Try.func108, Try.ntmps108
  go_wp2
  go_ret
  exact ⟨rfl, (Below.refl _ _).alloc (Nat.le_refl _) _⟩
theorem class_56 (w : World) : Calls Try.prog 108 #[.int .u8 56] w fun e w' => e = .returned (.int .i64 2) ∧ Below w.heap.size w w' := by
  go_enter Try.func108, Try.ntmps108
  go_wp2
  go_ret
  exact ⟨rfl, (Below.refl _ _).alloc (Nat.le_refl _) _⟩
theorem class_57 (w : World) : Calls Try.prog 108 #[.int .u8 57] w fun e w' => e = .returned (.int .i64 2) ∧ Below w.heap.size w w' := by
  go_enter Try.func108, Try.ntmps108
  go_wp2
  go_ret
  exact ⟨rfl, (Below.refl _ _).alloc (Nat.le_refl _) _⟩
theorem F108_ok (c : Int) (r : Int) (h : F108 c = some r) : PureOK E 108 [.v (.int .u8 c)] (.v (.int .i64 r)) := by
  unfold F108 at h
  split at h
  · rename_i hc
    obtain rfl := Option.some.inj h
    refine pure_below (vs := [.int .u8 c]) Try.func108 rfl (names _ _ Try.func108) (fun w => ?_)
    by_cases hin : 43 ≤ c ∧ c ≤ 57
    · have : c = 43 ∨ c = 44 ∨ c = 45 ∨ c = 46 ∨ c = 47 ∨ c = 48 ∨ c = 49 ∨ c = 50 ∨ c = 51 ∨ c = 52 ∨ c = 53 ∨ c = 54 ∨ c = 55 ∨ c = 56 ∨ c = 57 := by omega
      rcases this with rfl | rfl | rfl | rfl | rfl | rfl | rfl | rfl | rfl | rfl | rfl | rfl | rfl | rfl | rfl
      · exact class_43 w
      · exact class_44 w
      · exact class_45 w
      · exact class_46 w
      · exact class_47 w
      · exact class_48 w
      · exact class_49 w
      · exact class_50 w
      · exact class_51 w
      · exact class_52 w
      · exact class_53 w
      · exact class_54 w
      · exact class_55 w
      · exact class_56 w
      · exact class_57 w
    · have e : clsOf c = 0 := by unfold clsOf; rw [if_neg (by omega), if_neg (by omega), if_neg (by omega)]
      rw [e]; exact class_out c w hc.1 hc.2 (by omega)
  · cases h
end Go.Bx.Dat
