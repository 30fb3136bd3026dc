/- What the program's functions compute, shown of their code (Wb). Own text; parts are printed by a program of this claim's author. -/
import Derived.Test.YtcjhbkcdhpbkcaaV0
import Derived.WalkKit
/- Contracts by hand, as functions of plain values. (Own text.) -/
namespace Go.Bx.Dat
set_option linter.unusedVariables false
set_option linter.unusedSimpArgs false
set_option linter.unusedSectionVars false
open Go.Proofs
set_option maxRecDepth 10000
set_option linter.unusedVariables false
def fm38 : Fm := ⟨[.lf (.lf (.s)), .lf (.lf (.i .u8))], ⟨[], [], []⟩, ⟨spr 8 [(4, .lf (.lf (.i .i64)))], []⟩⟩
theorem res38 : ∀ w, (resP S Try.f38 fm38.fin w).isSome = true := fun _ => by kernel_rfl
def fm63 : Fm := ⟨[.lf (.lf (.s)), .lf (.lf (.s))], ⟨[], [], []⟩, ⟨spr 55 [(4, .lf (.lf (.i .i64)))], []⟩⟩
theorem res63 : ∀ w, (resP S Try.f63 fm63.fin w).isSome = true := fun _ => by kernel_rfl
def fm108 : Fm := ⟨[.lf (.lf (.i .u8))], ⟨[], [], []⟩, ⟨spr 15 [(2, .lf (.lf (.i .i64)))], []⟩⟩
theorem res108 : ∀ w, (resP S Try.f108 fm108.fin w).isSome = true := fun _ => by kernel_rfl
def fm87 : Fm := ⟨[.lf (.lf (.s))], ⟨[], [], []⟩, ⟨spr 18 [(2, .lf (.lf (.s)))], []⟩⟩
theorem res87 : ∀ w, (resP S Try.f87 fm87.fin w).isSome = true := fun _ => by kernel_rfl
theorem h38 : Sound S fm38 38 Try.f38 (fun v => (F38 v.1 v.2).map Pn.ok) := sound_hand SOK fun v r h ys hb => by
  replace h := Option.map_eq_some_iff.1 h
  obtain ⟨w, hw, rfl⟩ := h
  cases hb
  intro vs hvs
  cases hvs
  exact F38_ok v.1 v.2 _ hw
theorem h63 : Sound S fm63 63 Try.f63 (fun v => (F63 v.1 v.2).map Pn.ok) := sound_hand SOK fun v r h ys hb => by
  replace h := Option.map_eq_some_iff.1 h
  obtain ⟨w, hw, rfl⟩ := h
  cases hb
  intro vs hvs
  cases hvs
  exact F63_ok v.1 v.2 _ hw
theorem h108 : Sound S fm108 108 Try.f108 (fun v => (F108 v).map Pn.ok) := sound_hand SOK fun v r h ys hb => by
  replace h := Option.map_eq_some_iff.1 h
  obtain ⟨w, hw, rfl⟩ := h
  cases hb
  intro vs hvs
  cases hvs
  exact F108_ok v _ hw
theorem h87 : Sound S fm87 87 Try.f87 (fun v => (F87 v).map Pn.ok) := sound_hand SOK fun v r h ys hb => by
  replace h := Option.map_eq_some_iff.1 h
  obtain ⟨w, hw, rfl⟩ := h
  cases hb
  intro vs hvs
  cases hvs
  exact F87_ok v _ hw
def fm72 : Frm := ⟨⟨[.lf (.lf (.tptr 0 66))], [.box 2 false [.lf (.slf 0), .lf (.trow 1 5)], .row 5 false false]⟩, ⟨[], [], []⟩, ⟨spr 20 [], [.box 2 false [.lf (.slf 0), .lf (.trow 1 5)], .row 5 false false]⟩⟩
theorem pre72 : ∀ v, (preR S fm72 v).isSome = true := fun _ => by kernel_rfl
theorem post72 : ∀ v w, (postR S fm72 Try.f72 v w).isSome = true := fun _ _ => by kernel_rfl
def fm31 : Frm := ⟨⟨[.lf (.lf (.tptr 0 66))], [.box 2 false [.lf (.slf 0), .lf (.trow 1 5)], .row 5 false false]⟩, ⟨[], [], []⟩, ⟨spr 14 [(2, .lf (.lf (.s)))], [.dead, .dead]⟩⟩
theorem pre31 : ∀ v, (preR S fm31 v).isSome = true := fun _ => by kernel_rfl
theorem post31 : ∀ v w, (postR S fm31 Try.f31 v w).isSome = true := fun _ _ => by kernel_rfl
def fm52 : Frm := ⟨⟨[.lf (.lf (.tptr 0 66))], [.box 2 false [.lf (.slf 0), .lf (.trow 1 5)], .row 5 false false]⟩, ⟨[], [], []⟩, ⟨spr 8 [(2, .lf (.lf (.i .i64)))], [.box 2 false [.lf (.slf 0), .lf (.trow 1 5)], .row 5 false false]⟩⟩
theorem pre52 : ∀ v, (preR S fm52 v).isSome = true := fun _ => by kernel_rfl
theorem post52 : ∀ v w, (postR S fm52 Try.f52 v w).isSome = true := fun _ _ => by kernel_rfl
theorem shp72 (v : List Int) (p) (hp : preR S fm72 v = some p) : avs S p.1 = [.tptr 0 66] ∧ obs S p.2 = [some ⟨2, false, false, [[.slf 0, .trow 1 5 v.length]]⟩, some ⟨1, false, true, List.map (cInt .u8) v⟩] := by
  have e : (preR S fm72 v).map (fun p => (avs S p.1, obs S p.2)) = some ([.tptr 0 66], [some ⟨2, false, false, [[.slf 0, .trow 1 5 v.length]]⟩, some ⟨1, false, true, List.map (cInt .u8) v ++ []⟩]) := by kernel_rfl
  rw [hp] at e
  simp only [Option.map_some, Option.some.injEq, Prod.mk.injEq, List.append_nil] at e
  exact e
theorem shp72q (v : List Int) (q) (hq : postR S fm72 Try.f72 v v = some q) : rsAV S q.1 = .tup [] ∧ obs S q.2 = [some ⟨2, false, false, [[.slf 0, .trow 1 5 v.length]]⟩, some ⟨1, false, true, List.map (cInt .u8) v⟩] := by
  have e : (postR S fm72 Try.f72 v v).map (fun p => (rsAV S p.1, obs S p.2)) = some (.tup [], [some ⟨2, false, false, [[.slf 0, .trow 1 5 v.length]]⟩, some ⟨1, false, true, List.map (cInt .u8) v ++ []⟩]) := by kernel_rfl
  rw [hq] at e
  simp only [Option.map_some, Option.some.injEq, Prod.mk.injEq, List.append_nil] at e
  exact e
theorem h72 : SoundR S fm72 72 Try.f72 (fun v => some (.ok v)) := fun v r h p hp => by
  cases h
  intro q hq
  obtain ⟨e1, e2⟩ := shp72 v p hp
  obtain ⟨e3, e4⟩ := shp72q v q hq
  rw [e1, e2, e3, e4]
  refine refC_of (k := 2) (fun g => rfl) (fun s => rfl) rfl fun base σ g hg hlt ho => ⟨σ, 0, by decide, rfl, F72_at base σ (g 0) _ (ho 0 _ rfl), fun j hj => .inl ?_, fun id h => rfl⟩
  match j, hj with
  | 0, _ => rw [ho 0 _ rfl]; rfl
  | 1, _ => rw [ho 1 _ rfl]; rfl
theorem shp52 (v : List Int) (p) (hp : preR S fm52 v = some p) : avs S p.1 = [.tptr 0 66] ∧ obs S p.2 = [some ⟨2, false, false, [[.slf 0, .trow 1 5 v.length]]⟩, some ⟨1, false, true, List.map (cInt .u8) v⟩] := shp72 v p hp
theorem shp52q (v : List Int) (q) (hq : postR S fm52 Try.f52 v ((v.length : Int), v) = some q) : rsAV S q.1 = .v (.int .i64 v.length) ∧ obs S q.2 = [some ⟨2, false, false, [[.slf 0, .trow 1 5 v.length]]⟩, some ⟨1, false, true, List.map (cInt .u8) v⟩] := by
  have e : (postR S fm52 Try.f52 v ((v.length : Int), v)).map (fun p => (rsAV S p.1, obs S p.2)) = some (.v (.int .i64 v.length), [some ⟨2, false, false, [[.slf 0, .trow 1 5 v.length]]⟩, some ⟨1, false, true, List.map (cInt .u8) v ++ []⟩]) := by kernel_rfl
  rw [hq] at e
  simp only [Option.map_some, Option.some.injEq, Prod.mk.injEq, List.append_nil] at e
  exact e
theorem h52 : SoundR S fm52 52 Try.f52 (fun (v : List Int) => some (.ok ((v.length : Int), v))) := fun v r h p hp => by
  cases h
  intro q hq
  obtain ⟨e1, e2⟩ := shp52 v p hp
  obtain ⟨e3, e4⟩ := shp52q v q hq
  rw [e1, e2, e3, e4]
  refine refC_of (k := 2) (fun g => rfl) (fun s => rfl) rfl fun base σ g hg hlt ho => ⟨σ, 0, by decide, rfl, F52_at base σ (g 0) (g 1) _ (ho 0 _ rfl), fun j hj => .inl ?_, fun id h => rfl⟩
  match j, hj with
  | 0, _ => rw [ho 0 _ rfl]; rfl
  | 1, _ => rw [ho 1 _ rfl]; rfl
theorem shp31 (v : List Int) (p) (hp : preR S fm31 v = some p) : avs S p.1 = [.tptr 0 66] ∧ obs S p.2 = [some ⟨2, false, false, [[.slf 0, .trow 1 5 v.length]]⟩, some ⟨1, false, true, List.map (cInt .u8) v⟩] := shp72 v p hp
theorem shp31q (v : List Int) (w : Str) (q) (hq : postR S fm31 Try.f31 v w = some q) : rsAV S q.1 = .v (.string (mkS w)) ∧ obs S q.2 = [none, none] := by
  have e : (postR S fm31 Try.f31 v w).map (fun p => (rsAV S p.1, obs S p.2)) = some (.v (.string (mkS w)), [none, none]) := by kernel_rfl
  rw [hq] at e
  simp only [Option.map_some, Option.some.injEq, Prod.mk.injEq] at e
  exact e
theorem h31 : SoundR S fm31 31 Try.f31 (fun v => (F31 v).map Pn.ok) := fun v r h p hp => by
  replace h := Option.map_eq_some_iff.1 h
  obtain ⟨w, hw, rfl⟩ := h
  intro q hq
  obtain ⟨e1, e2⟩ := shp31 v p hp
  obtain ⟨e3, e4⟩ := shp31q v w q hq
  rw [e1, e2, e3, e4]
  refine refC_of (k := 2) (fun g => rfl) (fun s => rfl) rfl fun base σ g hg hlt ho => ⟨σ.put (g 1) none, 1, by decide, rfl, F31_at base σ (g 0) (g 1) v w hw (ho 0 _ rfl) (ho 1 _ rfl), fun j hj => ?_, fun id h => ?_⟩
  · match j, hj with
    | 0, _ =>
      refine .inr ⟨rfl, fun c us hus => ?_⟩
      obtain ⟨u, hu⟩ : ∃ u, us[0]? = some u := by
        have := hus.1
        cases us with
        | nil => simp at this
        | cons a l => exact ⟨a, rfl⟩
      have hr := hus.2 0 (.tptr (g 0) 66) u rfl hu
      cases hr with
      | tptr L hm ho ht => rw [hm]; exact nofun
    | 1, _ => exact .inl (by simp [Store.put])
  · simp only [Store.put]; rw [if_neg (fun e => h 1 (by decide) e.symm)]

end Go.Bx.Dat

/- Functions of the seat, printed by cgen.py. (Own text.) -/
namespace Go.Bx.Dat
set_option linter.unusedVariables false
set_option linter.unusedSimpArgs false
set_option linter.unusedSectionVars false
open Go.Proofs
set_option maxRecDepth 10000
set_option linter.unusedVariables false
noncomputable def G38 (It : Iter) : Snd S fm38 38 Try.f38 := ⟨_, h38⟩
/-! 37 sibyl/scan.sign -/
def fm37 : Fm := ⟨[.lf (.lf (.i .u8))], ⟨[], [], []⟩, ⟨spr 6 [(2, .lf (.lf (.i .i64)))], []⟩⟩
theorem res37 : ∀ w, (resP S Try.f37 fm37.fin w).isSome = true := fun _ => by kernel_rfl
noncomputable def G37 (It : Iter) : Snd S fm37 37 Try.f37 := Snd.run SOK (fun f => match f with
    | 38 => .pure (Snd.row SOK (G38 It) res38)
    | _ => .none) It fm37 37 Try.func37 (names _ _ Try.func37)
/-! 105 unicode/utf8.ValidRune -/
def fm105 : Fm := ⟨[.lf (.lf (.i .i32))], ⟨[(12, (⟨spr 17 [(0, .lf (.lf (.i .i32))), (3, .lf (.lf (.b)))], []⟩, false)), (51, (⟨spr 17 [(10, .lf (.lf (.b)))], []⟩, false))], [], []⟩, ⟨spr 17 [(2, .lf (.lf (.b)))], []⟩⟩
theorem res105 : ∀ w, (resP S Try.f105 fm105.fin w).isSome = true := fun _ => by kernel_rfl
noncomputable def G105 (It : Iter) : Snd S fm105 105 Try.f105 := Snd.run SOK (fun _ => .none) It fm105 105 Try.func105 (names _ _ Try.func105)
/-! 106 internal/bytealg.Cutover -/
def fm106 : Fm := ⟨[.lf (.lf (.i .i64))], ⟨[], [], []⟩, ⟨spr 6 [(2, .lf (.lf (.i .i64)))], []⟩⟩
theorem res106 : ∀ w, (resP S Try.f106 fm106.fin w).isSome = true := fun _ => by kernel_rfl
noncomputable def G106 (It : Iter) : Snd S fm106 106 Try.f106 := Snd.run SOK (fun _ => .none) It fm106 106 Try.func106 (names _ _ Try.func106)
/-! 83 strings.shouldUseASCIISet -/
def fm83 : Fm := ⟨[.lf (.lf (.i .i64))], ⟨[], [], []⟩, ⟨spr 5 [(2, .lf (.lf (.b)))], []⟩⟩
theorem res83 : ∀ w, (resP S Try.f83 fm83.fin w).isSome = true := fun _ => by kernel_rfl
noncomputable def G83 (It : Iter) : Snd S fm83 83 Try.f83 := Snd.run SOK (fun _ => .none) It fm83 83 Try.func83 (names _ _ Try.func83)
noncomputable def G63 (It : Iter) : Snd S fm63 63 Try.f63 := ⟨_, h63⟩
/-! 98 sibyl/scan.begins -/
def fm98 : Fm := ⟨[.lf (.lf (.i .u8))], ⟨[(3, (⟨spr 22 [(2, .lf (.lf (.b)))], []⟩, false))], [], []⟩, ⟨spr 22 [(2, .lf (.lf (.b)))], []⟩⟩
theorem res98 : ∀ w, (resP S Try.f98 fm98.fin w).isSome = true := fun _ => by kernel_rfl
noncomputable def G98 (It : Iter) : Snd S fm98 98 Try.f98 := Snd.run SOK (fun f => match f with
    | 38 => .pure (Snd.row SOK (G38 It) res38)
    | _ => .none) It fm98 98 Try.func98 (names _ _ Try.func98)
/-! 76 sibyl/scan.shaped -/
def fm76 : Fm := ⟨[.lf (.lf (.s))], ⟨[(6, (⟨spr 36 [(0, .lf (.lf (.s))), (9, .lf (.lf (.b)))], []⟩, false)), (14, (⟨spr 36 [(0, .lf (.lf (.s))), (17, .lf (.lf (.b)))], []⟩, false)), (1956, (⟨spr 36 [(0, .lf (.lf (.s))), (3, .lf (.lf (.i .i64))), (35, .lf (.lf (.b)))], []⟩, false))], [(122, ⟨⟨spr 36 [(0, .lf (.lf (.s))), (3, .lf (.lf (.i .i64)))], []⟩, some (0, ⟨spr 36 [], []⟩), true⟩)], []⟩, ⟨spr 36 [(2, .lf (.lf (.b)))], []⟩⟩
theorem res76 : ∀ w, (resP S Try.f76 fm76.fin w).isSome = true := fun _ => by kernel_rfl
noncomputable def G76 (It : Iter) : Snd S fm76 76 Try.f76 := Snd.run SOK (fun f => match f with
    | 38 => .pure (Snd.row SOK (G38 It) res38)
    | 98 => .pure (Snd.row SOK (G98 It) res98)
    | _ => .none) It fm76 76 Try.func76 (names _ _ Try.func76)
noncomputable def G108 (It : Iter) : Snd S fm108 108 Try.f108 := ⟨_, h108⟩
/-! 119 sibyl/nats.Push -/
def fm119 : Frm := ⟨⟨[.lf (.lf (.row 0 106)), .lf (.lf (.i .u32))], [.row 106 false false]⟩, ⟨[(15, (⟨spr 39 [(0, .lf (.lf (.row 1 106)))], [.dead, .row 106 false false]⟩, false))], [(58, ⟨⟨spr 39 [(0, .lf (.lf (.row 0 106))), (5, .lf (.lf (.i .u64))), (11, .lf (.lf (.i .i64))), (12, .lf (.lf (.i .i64)))], [.row 106 false false]⟩, some (0, ⟨spr 39 [(0, .lf (.lf (.row 0 106))), (5, .lf (.lf (.i .u64)))], [.row 106 false false]⟩), false⟩)], []⟩, ⟨spr 39 [(4, .lf (.lf (.row 1 106)))], [.dead, .row 106 false false]⟩⟩
theorem pre119 : ∀ v, (preR S fm119 v).isSome = true := fun _ => by kernel_rfl
theorem post119 : ∀ v w, (postR S fm119 Try.f119 v w).isSome = true := fun _ _ => by kernel_rfl
noncomputable def G119 (It : Iter) : SndR S fm119 119 Try.f119 := SndR.run SOK (fun _ => .none) It fm119 119 Try.func119 (names _ _ Try.func119)
/-! 109 sibyl/ratio.natDigits -/
def fm109 : Fm := ⟨[.lf (.lf (.s)), .lf (.lf (.i .i64))], ⟨[(3, (⟨spr 44 [(0, .lf (.lf (.s))), (1, .lf (.lf (.i .i64))), (7, .lf (.lf (.row 0 106)))], [.row 106 false false]⟩, false)), (240, (⟨spr 44 [(0, .lf (.lf (.s))), (1, .lf (.lf (.i .i64))), (7, .lf (.lf (.row 0 106))), (8, .lf (.lf (.i .i64))), (21, .lf (.lf (.b)))], [.row 106 false false]⟩, false)), (241, (⟨spr 44 [(0, .lf (.lf (.s))), (1, .lf (.lf (.i .i64))), (7, .lf (.lf (.row 0 106))), (8, .lf (.lf (.i .i64)))], [.row 106 false false]⟩, false)), (1929, (⟨spr 44 [(0, .lf (.lf (.s))), (1, .lf (.lf (.i .i64))), (7, .lf (.lf (.row 0 106))), (8, .lf (.lf (.i .i64))), (9, .lf (.lf (.i .u8))), (34, .lf (.lf (.b)))], [.row 106 false false]⟩, false))], [(60, ⟨⟨spr 44 [(0, .lf (.lf (.s))), (1, .lf (.lf (.i .i64))), (7, .lf (.lf (.row 0 106))), (8, .lf (.lf (.i .i64)))], [.row 106 false false]⟩, some (0, ⟨spr 44 [(1, .lf (.lf (.i .i64))), (7, .lf (.lf (.row 0 106))), (8, .lf (.lf (.i .i64)))], [.row 106 false false]⟩), false⟩)], []⟩, ⟨spr 44 [(4, .lf (.lf (.row 0 106))), (5, .lf (.lf (.i .i64))), (6, .lf (.lf (.b)))], [.row 106 false false]⟩⟩
theorem res109 : ∀ w, (resP S Try.f109 fm109.fin w).isSome = true := fun _ => by kernel_rfl
noncomputable def G109 (It : Iter) : Snd S fm109 109 Try.f109 := Snd.run SOK (fun f => match f with
    | 108 => .pure (Snd.row SOK (G108 It) res108)
    | 119 => .ref (SndR.row SOK (G119 It) pre119 post119)
    | _ => .none) It fm109 109 Try.func109 (names _ _ Try.func109)
/-! 71 sibyl/ratio.one -/
def fm71 : Fm := ⟨[.lf (.lf (.l 106))], ⟨[(3, (⟨spr 12 [(2, .lf (.lf (.b)))], []⟩, false))], [], []⟩, ⟨spr 12 [(2, .lf (.lf (.b)))], []⟩⟩
theorem res71 : ∀ w, (resP S Try.f71 fm71.fin w).isSome = true := fun _ => by kernel_rfl
noncomputable def G71 (It : Iter) : Snd S fm71 71 Try.f71 := Snd.run SOK (fun _ => .none) It fm71 71 Try.func71 (names _ _ Try.func71)
/-! 92 sibyl/nats.Trim -/
def fm92 : Fm := ⟨[.lf (.lf (.l 106))], ⟨[(112, (⟨spr 22 [(0, .lf (.lf (.l 106))), (3, .lf (.lf (.i .i64))), (15, .lf (.lf (.b)))], []⟩, false))], [(28, ⟨⟨spr 22 [(0, .lf (.lf (.l 106))), (3, .lf (.lf (.i .i64)))], []⟩, some (0, ⟨spr 22 [(0, .lf (.lf (.l 106))), (3, .lf (.lf (.i .i64)))], []⟩), false⟩)], []⟩, ⟨spr 22 [(2, .lf (.lf (.row 0 106)))], [.row 106 false false]⟩⟩
theorem res92 : ∀ w, (resP S Try.f92 fm92.fin w).isSome = true := fun _ => by kernel_rfl
noncomputable def G92 (It : Iter) : Snd S fm92 92 Try.f92 := Snd.run SOK (fun _ => .none) It fm92 92 Try.func92 (names _ _ Try.func92)
/-! 113 sibyl/nats.cut -/
def fm113 : Fm := ⟨[.lf (.lf (.l 106))], ⟨[(112, (⟨spr 21 [(0, .lf (.lf (.l 106))), (3, .lf (.lf (.i .i64))), (15, .lf (.lf (.b)))], []⟩, false))], [(28, ⟨⟨spr 21 [(0, .lf (.lf (.l 106))), (3, .lf (.lf (.i .i64)))], []⟩, some (0, ⟨spr 21 [(0, .lf (.lf (.l 106))), (3, .lf (.lf (.i .i64)))], []⟩), false⟩)], []⟩, ⟨spr 21 [(2, .lf (.lf (.l 106)))], []⟩⟩
theorem res113 : ∀ w, (resP S Try.f113 fm113.fin w).isSome = true := fun _ => by kernel_rfl
noncomputable def G113 (It : Iter) : Snd S fm113 113 Try.f113 := Snd.run SOK (fun _ => .none) It fm113 113 Try.func113 (names _ _ Try.func113)
/-! 93 sibyl/nats.word -/
def fm93 : Fm := ⟨[.lf (.lf (.l 106)), .lf (.lf (.i .u32))], ⟨[], [(122, ⟨⟨spr 44 [(0, .lf (.lf (.l 106))), (1, .lf (.lf (.i .u32))), (6, .lf (.lf (.row 0 106))), (7, .lf (.lf (.i .u64))), (8, .lf (.lf (.i .i64)))], [.row 106 false false]⟩, some (0, ⟨spr 44 [(6, .lf (.lf (.row 0 106))), (7, .lf (.lf (.i .u64)))], [.row 106 false false]⟩), false⟩)], []⟩, ⟨spr 44 [(4, .lf (.lf (.l 106))), (5, .lf (.lf (.i .u32)))], []⟩⟩
theorem res93 : ∀ w, (resP S Try.f93 fm93.fin w).isSome = true := fun _ => by kernel_rfl
noncomputable def G93 (It : Iter) : Snd S fm93 93 Try.f93 := Snd.run SOK (fun f => match f with
    | 113 => .pure (Snd.row SOK (G113 It) res113)
    | _ => .none) It fm93 93 Try.func93 (names _ _ Try.func93)
/-! 114 sibyl/nats.Cmp -/
def fm114 : Fm := ⟨[.lf (.lf (.l 106)), .lf (.lf (.l 106))], ⟨[], [(122, ⟨⟨spr 45 [(0, .lf (.lf (.l 106))), (1, .lf (.lf (.l 106))), (5, .lf (.lf (.i .i64)))], []⟩, some (0, ⟨spr 45 [], []⟩), true⟩)], []⟩, ⟨spr 45 [(4, .lf (.lf (.i .i64)))], []⟩⟩
theorem res114 : ∀ w, (resP S Try.f114 fm114.fin w).isSome = true := fun _ => by kernel_rfl
noncomputable def G114 (It : Iter) : Snd S fm114 114 Try.f114 := Snd.run SOK (fun f => match f with
    | 113 => .pure (Snd.row SOK (G113 It) res113)
    | _ => .none) It fm114 114 Try.func114 (names _ _ Try.func114)
/-! 121 math/bits.Len32 -/
def fm121 : Fm := ⟨[.lf (.lf (.i .u32))], ⟨[(3, (⟨spr 19 [(0, .lf (.lf (.i .u32))), (2, .lf (.lf (.i .i64)))], []⟩, false)), (7, (⟨spr 19 [(0, .lf (.lf (.i .u32))), (2, .lf (.lf (.i .i64)))], []⟩, false))], [], []⟩, ⟨spr 19 [(2, .lf (.lf (.i .i64)))], []⟩⟩
theorem res121 : ∀ w, (resP S Try.f121 fm121.fin w).isSome = true := fun _ => by kernel_rfl
noncomputable def G121 (It : Iter) : Snd S fm121 121 Try.f121 := Snd.run SOK (fun _ => .none) It fm121 121 Try.func121 (names _ _ Try.func121)
/-! 115 math/bits.LeadingZeros32 -/
def fm115 : Fm := ⟨[.lf (.lf (.i .u32))], ⟨[], [], []⟩, ⟨spr 6 [(2, .lf (.lf (.i .i64)))], []⟩⟩
theorem res115 : ∀ w, (resP S Try.f115 fm115.fin w).isSome = true := fun _ => by kernel_rfl
noncomputable def G115 (It : Iter) : Snd S fm115 115 Try.f115 := Snd.run SOK (fun f => match f with
    | 121 => .pure (Snd.row SOK (G121 It) res121)
    | _ => .none) It fm115 115 Try.func115 (names _ _ Try.func115)
/-! 116 sibyl/nats.Shl -/
def fm116 : Fm := ⟨[.lf (.lf (.l 106)), .lf (.lf (.i .i64))], ⟨[], [(506, ⟨⟨spr 60 [(5, .lf (.lf (.i .i64))), (6, .lf (.lf (.i .u64))), (7, .lf (.lf (.row 0 106))), (27, .lf (.lf (.l 106))), (28, .lf (.lf (.i .i64))), (29, .lf (.lf (.i .i64)))], [.row 106 false false]⟩, some (0, ⟨spr 60 [(7, .lf (.lf (.row 0 106)))], [.row 106 false false]⟩), false⟩)], []⟩, ⟨spr 60 [(4, .lf (.lf (.l 106)))], []⟩⟩
theorem res116 : ∀ w, (resP S Try.f116 fm116.fin w).isSome = true := fun _ => by kernel_rfl
noncomputable def G116 (It : Iter) : Snd S fm116 116 Try.f116 := Snd.run SOK (fun f => match f with
    | 113 => .pure (Snd.row SOK (G113 It) res113)
    | _ => .none) It fm116 116 Try.func116 (names _ _ Try.func116)
/-! 122 math/bits.Add32 -/
def fm122 : Fm := ⟨[.lf (.lf (.i .u32)), .lf (.lf (.i .u32)), .lf (.lf (.i .u32))], ⟨[], [], []⟩, ⟨spr 22 [(6, .lf (.lf (.i .u32))), (7, .lf (.lf (.i .u32)))], []⟩⟩
theorem res122 : ∀ w, (resP S Try.f122 fm122.fin w).isSome = true := fun _ => by kernel_rfl
noncomputable def G122 (It : Iter) : Snd S fm122 122 Try.f122 := Snd.run SOK (fun _ => .none) It fm122 122 Try.func122 (names _ _ Try.func122)
/-! 117 sibyl/nats.digit -/
def fm117 : Frm := ⟨⟨[.lf (.lf (.rowlo 0 106)), .lf (.lf (.l 106))], [.row 106 false false]⟩, ⟨[(496, (⟨spr 166 [(0, .lf (.lf (.rowlo 0 106))), (1, .lf (.lf (.l 106))), (5, .lf (.lf (.i .i64))), (7, .lf (.lf (.i .u64))), (8, .lf (.lf (.i .u64))), (69, .lf (.lf (.b)))], [.row 106 false false]⟩, false))], [(124, ⟨⟨spr 166 [(0, .lf (.lf (.rowlo 0 106))), (1, .lf (.lf (.l 106))), (5, .lf (.lf (.i .i64))), (7, .lf (.lf (.i .u64))), (8, .lf (.lf (.i .u64)))], [.row 106 false false]⟩, some (0, ⟨spr 166 [(0, .lf (.lf (.rowlo 0 106))), (1, .lf (.lf (.l 106))), (5, .lf (.lf (.i .i64))), (7, .lf (.lf (.i .u64)))], [.row 106 false false]⟩), false⟩), (1018, ⟨⟨spr 166 [(0, .lf (.lf (.rowlo 0 106))), (1, .lf (.lf (.l 106))), (5, .lf (.lf (.i .i64))), (7, .lf (.lf (.i .u64))), (9, .lf (.lf (.i .u64))), (10, .lf (.lf (.i .u64))), (82, .lf (.lf (.i .i64))), (83, .lf (.lf (.i .i64)))], [.row 106 false false]⟩, some (2, ⟨spr 166 [(0, .lf (.lf (.rowlo 0 106))), (1, .lf (.lf (.l 106))), (5, .lf (.lf (.i .i64))), (7, .lf (.lf (.i .u64))), (9, .lf (.lf (.i .u64))), (10, .lf (.lf (.i .u64)))], [.row 106 false false]⟩), false⟩), (32762, ⟨⟨spr 166 [(0, .lf (.lf (.rowlo 0 106))), (1, .lf (.lf (.l 106))), (5, .lf (.lf (.i .i64))), (7, .lf (.lf (.i .u64))), (15, .lf (.lf (.i .u32))), (135, .lf (.lf (.i .i64))), (136, .lf (.lf (.i .i64)))], [.row 106 false false]⟩, some (4, ⟨spr 166 [(0, .lf (.lf (.rowlo 0 106))), (5, .lf (.lf (.i .i64))), (7, .lf (.lf (.i .u64))), (15, .lf (.lf (.i .u32)))], [.row 106 false false]⟩), false⟩)], []⟩, ⟨spr 166 [(4, .lf (.lf (.i .u32)))], [.row 106 false false]⟩⟩
theorem pre117 : ∀ v, (preR S fm117 v).isSome = true := fun _ => by kernel_rfl
theorem post117 : ∀ v w, (postR S fm117 Try.f117 v w).isSome = true := fun _ _ => by kernel_rfl
noncomputable def G117 (It : Iter) : SndR S fm117 117 Try.f117 := SndR.run SOK (fun f => match f with
    | 122 => .pure (Snd.row SOK (G122 It) res122)
    | _ => .none) It fm117 117 Try.func117 (names _ _ Try.func117)
/-! 118 sibyl/nats.Shr -/
def fm118 : Fm := ⟨[.lf (.lf (.l 106)), .lf (.lf (.i .i64))], ⟨[(64819, (⟨spr 66 [(0, .lf (.lf (.l 106))), (5, .lf (.lf (.i .i64))), (6, .lf (.lf (.i .u64))), (7, .lf (.lf (.row 0 106))), (8, .lf (.lf (.i .i64))), (9, .lf (.lf (.i .u64))), (27, .lf (.lf (.i .i64))), (28, .lf (.lf (.i .i64)))], [.row 106 false false]⟩, false))], [(506, ⟨⟨spr 66 [(0, .lf (.lf (.l 106))), (5, .lf (.lf (.i .i64))), (6, .lf (.lf (.i .u64))), (7, .lf (.lf (.row 0 106))), (27, .lf (.lf (.i .i64))), (28, .lf (.lf (.i .i64)))], [.row 106 false false]⟩, some (0, ⟨spr 66 [(7, .lf (.lf (.row 0 106)))], [.row 106 false false]⟩), false⟩)], []⟩, ⟨spr 66 [(4, .lf (.lf (.l 106)))], []⟩⟩
theorem res118 : ∀ w, (resP S Try.f118 fm118.fin w).isSome = true := fun _ => by kernel_rfl
noncomputable def G118 (It : Iter) : Snd S fm118 118 Try.f118 := Snd.run SOK (fun f => match f with
    | 113 => .pure (Snd.row SOK (G113 It) res113)
    | _ => .none) It fm118 118 Try.func118 (names _ _ Try.func118)
/-! 97 sibyl/nats.QuoRem -/
def fm97 : Fm := ⟨[.lf (.lf (.l 106)), .lf (.lf (.l 106))], ⟨[], [(8186, ⟨⟨spr 89 [(8, .lf (.lf (.i .i64))), (9, .lf (.lf (.l 106))), (10, .lf (.lf (.row 0 106))), (11, .lf (.lf (.row 1 106))), (12, .lf (.lf (.i .i64)))], [.row 106 false false, .row 106 false false]⟩, some (0, ⟨spr 89 [(8, .lf (.lf (.i .i64))), (10, .lf (.lf (.row 0 106))), (11, .lf (.lf (.row 1 106)))], [.row 106 false false, .row 106 false false]⟩), false⟩)], []⟩, ⟨spr 89 [(4, .lf (.lf (.l 106))), (5, .lf (.lf (.l 106)))], []⟩⟩
theorem res97 : ∀ w, (resP S Try.f97 fm97.fin w).isSome = true := fun _ => by kernel_rfl
noncomputable def G97 (It : Iter) : Snd S fm97 97 Try.f97 := Snd.run SOK (fun f => match f with
    | 92 => .pure (Snd.row SOK (G92 It) res92)
    | 93 => .pure (Snd.row SOK (G93 It) res93)
    | 113 => .pure (Snd.row SOK (G113 It) res113)
    | 114 => .pure (Snd.row SOK (G114 It) res114)
    | 115 => .pure (Snd.row SOK (G115 It) res115)
    | 116 => .pure (Snd.row SOK (G116 It) res116)
    | 117 => .ref (SndR.row SOK (G117 It) pre117 post117)
    | 118 => .pure (Snd.row SOK (G118 It) res118)
    | _ => .none) It fm97 97 Try.func97 (names _ _ Try.func97)
/-! 75 sibyl/nats.Gcd -/
def fm75 : Fm := ⟨[.lf (.lf (.l 106)), .lf (.lf (.l 106))], ⟨[], [(28, ⟨⟨spr 24 [(0, .lf (.lf (.l 106))), (1, .lf (.lf (.l 106)))], []⟩, some (0, ⟨spr 24 [(0, .lf (.lf (.l 106)))], []⟩), false⟩)], []⟩, ⟨spr 24 [(4, .lf (.lf (.row 0 106)))], [.row 106 false false]⟩⟩
theorem res75 : ∀ w, (resP S Try.f75 fm75.fin w).isSome = true := fun _ => by kernel_rfl
noncomputable def G75 (It : Iter) : Snd S fm75 75 Try.f75 := Snd.run SOK (fun f => match f with
    | 92 => .pure (Snd.row SOK (G92 It) res92)
    | 97 => .pure (Snd.row SOK (G97 It) res97)
    | _ => .none) It fm75 75 Try.func75 (names _ _ Try.func75)
/-! 110 sibyl/ratio.Make -/
def fm110 : Fm := ⟨[.lf (.lf (.b)), .lf (.lf (.l 106)), .lf (.lf (.l 106))], ⟨[(31, (⟨spr 55 [(0, .lf (.lf (.b))), (6, .lf (.lf (.ptr 0 0))), (8, .lf (.lf (.l 106))), (9, .lf (.lf (.l 106)))], [.box 3 false [.lf (.b), .lf (.c (.slice none 0 0)), .lf (.c (.slice none 0 0))]]⟩, false)), (126, (⟨spr 55 [(0, .lf (.lf (.b))), (6, .lf (.lf (.ptr 0 0))), (8, .lf (.lf (.l 106))), (9, .lf (.lf (.l 106))), (49, .lf (.lf (.b)))], [.box 3 false [.lf (.b), .lf (.c (.slice none 0 0)), .lf (.c (.slice none 0 0))]]⟩, false))], [], []⟩, ⟨spr 55 [(6, .lf (.lf (.ptr 0 0))), (7, .lf (.lf (.i .i64)))], [.box 3 false [.lf (.b), .lf (.l 106), .lf (.l 106)]]⟩⟩
theorem res110 : ∀ w, (resP S Try.f110 fm110.fin w).isSome = true := fun _ => by kernel_rfl
noncomputable def G110 (It : Iter) : Snd S fm110 110 Try.f110 := Snd.run SOK (fun f => match f with
    | 71 => .pure (Snd.row SOK (G71 It) res71)
    | 75 => .pure (Snd.row SOK (G75 It) res75)
    | 92 => .pure (Snd.row SOK (G92 It) res92)
    | 97 => .pure (Snd.row SOK (G97 It) res97)
    | _ => .none) It fm110 110 Try.func110 (names _ _ Try.func110)
/-! 86 sibyl/ratio.Read -/
def fm86 : Fm := ⟨[.lf (.lf (.s))], ⟨[(15, (⟨spr 74 [(0, .lf (.lf (.s))), (2, .lf (.lf (.ptr 0 0))), (4, .lf (.lf (.b))), (5, .lf (.lf (.i .i64)))], [.box 3 false [.lf (.b), .lf (.c (.slice none 0 0)), .lf (.c (.slice none 0 0))]]⟩, false)), (30, (⟨spr 74 [(0, .lf (.lf (.s))), (2, .lf (.lf (.ptr 0 0))), (4, .lf (.lf (.b))), (5, .lf (.lf (.i .i64))), (21, .lf (.lf (.b)))], [.box 3 false [.lf (.b), .lf (.c (.slice none 0 0)), .lf (.c (.slice none 0 0))]]⟩, false)), (255, (⟨spr 74 [(2, .lf (.lf (.ptr 0 0))), (4, .lf (.lf (.b))), (6, .lf (.lf (.row 1 106))), (9, .lf (.lf (.row 2 106)))], [.box 3 false [.lf (.b), .lf (.c (.slice none 0 0)), .lf (.c (.slice none 0 0))], .row 106 false false, .row 106 false false]⟩, true)), (8171, (⟨spr 74 [(2, .lf (.lf (.ptr 0 0))), (4, .lf (.lf (.b))), (6, .lf (.lf (.row 1 106))), (9, .lf (.lf (.row 2 106))), (66, .lf (.lf (.b)))], [.box 3 false [.lf (.b), .lf (.c (.slice none 0 0)), .lf (.c (.slice none 0 0))], .row 106 false false, .row 106 false false]⟩, false))], [], []⟩, ⟨spr 74 [(2, .lf (.lf (.ptr 0 0))), (3, .lf (.lf (.i .i64)))], [.box 3 false [.lf (.b), .lf (.l 106), .lf (.l 106)]]⟩⟩
theorem res86 : ∀ w, (resP S Try.f86 fm86.fin w).isSome = true := fun _ => by kernel_rfl
noncomputable def G86 (It : Iter) : Snd S fm86 86 Try.f86 := Snd.run SOK (fun f => match f with
    | 108 => .pure (Snd.row SOK (G108 It) res108)
    | 109 => .pure (Snd.row SOK (G109 It) res109)
    | 110 => .pure (Snd.row SOK (G110 It) res110)
    | _ => .none) It fm86 86 Try.func86 (names _ _ Try.func86)
/-! 64 sibyl/scan.run -/
def fm64 : Fm := ⟨[.lf (.lf (.s))], ⟨[(30, (⟨spr 47 [(0, .lf (.lf (.s))), (2, .lf (.lf (.ptr 0 0))), (4, .lf (.lf (.ptr 1 0))), (18, .lf (.lf (.b)))], [.box 6 false [.lf (.i .i64), .lf (.s), .lf (.b), .lf (.c (.slice none 0 0)), .lf (.c (.slice none 0 0)), .lf (.i .i64)], .box 6 false [.lf (.i .i64), .lf (.s), .lf (.b), .lf (.c (.slice none 0 0)), .lf (.c (.slice none 0 0)), .lf (.i .i64)]]⟩, false)), (126, (⟨spr 47 [(0, .lf (.lf (.s))), (2, .lf (.lf (.ptr 0 0))), (4, .lf (.lf (.ptr 1 0))), (5, .lf (.lf (.ptr 2 0))), (6, .lf (.lf (.i .i64))), (31, .lf (.lf (.b)))], [.box 6 false [.lf (.i .i64), .lf (.s), .lf (.b), .lf (.c (.slice none 0 0)), .lf (.c (.slice none 0 0)), .lf (.i .i64)], .box 6 false [.lf (.i .i64), .lf (.s), .lf (.b), .lf (.c (.slice none 0 0)), .lf (.c (.slice none 0 0)), .lf (.i .i64)], .box 3 false [.lf (.b), .lf (.l 106), .lf (.l 106)]]⟩, false))], [], []⟩, ⟨spr 47 [(2, .lf (.lf (.ptr 0 0))), (3, .lf (.lf (.i .i64)))], [.box 6 false [.lf (.i .i64), .lf (.s), .lf (.b), .lf (.l 106), .lf (.l 106), .lf (.i .i64)]]⟩⟩
theorem res64 : ∀ w, (resP S Try.f64 fm64.fin w).isSome = true := fun _ => by kernel_rfl
noncomputable def G64 (It : Iter) : Snd S fm64 64 Try.f64 := Snd.run SOK (fun f => match f with
    | 76 => .pure (Snd.row SOK (G76 It) res76)
    | 86 => .pure (Snd.row SOK (G86 It) res86)
    | _ => .none) It fm64 64 Try.func64 (names _ _ Try.func64)
/-! 39 sibyl/scan.word -/
def fm39 : Frm := ⟨⟨[.lf (.lf (.ptr 0 0)), .lf (.lf (.s)), .lf (.lf (.ptr 2 0))], [.box 1 false [.lf (.row 1 55)], .row 55 false false, .box 1 false [.lf (.i .i64)]]⟩, ⟨[(7, (⟨spr 59 [(0, .lf (.lf (.ptr 0 0))), (1, .lf (.lf (.s))), (2, .lf (.lf (.ptr 2 0))), (7, .lf (.lf (.i .i64)))], [.box 1 false [.lf (.row 1 55)], .row 55 false false, .box 1 false [.lf (.i .i64)]]⟩, false))], [], []⟩, ⟨spr 59 [(6, .lf (.lf (.i .i64)))], [.box 1 false [.lf (.row 3 55)], .dead, .box 1 false [.lf (.i .i64)], .row 55 false false]⟩⟩
theorem pre39 : ∀ v, (preR S fm39 v).isSome = true := fun _ => by kernel_rfl
theorem post39 : ∀ v w, (postR S fm39 Try.f39 v w).isSome = true := fun _ _ => by kernel_rfl
noncomputable def G39 (It : Iter) : SndR S fm39 39 Try.f39 := SndR.run SOK (fun f => match f with
    | 63 => .pure (Snd.row SOK (G63 It) res63)
    | 64 => .pure (Snd.row SOK (G64 It) res64)
    | _ => .none) It fm39 39 Try.func39 (names _ _ Try.func39)
/-! 23 sibyl/scan.Tokens -/
def fm23 : Fm := ⟨[.lf (.lf (.s))], ⟨[(13, (⟨spr 65 [(0, .lf (.lf (.s))), (5, .lf (.lf (.ptr 0 0)))], [.box 1 false [.lf (.row 1 55)], .row 55 false false]⟩, false)), (38685626227668133590607280, (⟨spr 65 [(0, .lf (.lf (.s))), (5, .lf (.lf (.ptr 0 0))), (6, .lf (.lf (.ptr 1 0))), (62, .lf (.lf (.b)))], [.box 1 false [.lf (.row 2 55)], .box 1 false [.lf (.i .i64)], .row 55 false false]⟩, false))], [(9671406556917033397651820, ⟨⟨spr 65 [(0, .lf (.lf (.s))), (5, .lf (.lf (.ptr 0 0))), (6, .lf (.lf (.ptr 1 0)))], [.box 1 false [.lf (.row 2 55)], .box 1 false [.lf (.i .i64)], .row 55 false false]⟩, some (1, ⟨spr 65 [(0, .lf (.lf (.s))), (5, .lf (.lf (.ptr 0 0))), (6, .lf (.lf (.ptr 1 0)))], [.box 1 false [.lf (.row 2 55)], .box 1 false [.lf (.i .i64)], .row 55 false false]⟩), false⟩)], [(3, [(0, (⟨spr 65 [(0, .lf (.lf (.s))), (5, .lf (.lf (.ptr 0 0))), (6, .lf (.lf (.ptr 1 0)))], [.box 1 false [.lf (.row 2 55)], .box 1 false [.lf (.i .i64)], .row 55 false false]⟩, 1208925819614629174706476)), (1, (⟨spr 65 [(0, .lf (.lf (.s))), (5, .lf (.lf (.ptr 0 0))), (6, .lf (.lf (.ptr 1 0)))], [.box 1 false [.lf (.row 2 55)], .box 1 false [.lf (.i .i64)], .row 55 false false]⟩, 1208925819614629174706477))])]⟩, ⟨spr 65 [(2, .lf (.lf (.row 0 55))), (3, .lf (.lf (.i .i64))), (4, .lf (.lf (.i .i64)))], [.row 55 false false]⟩⟩
theorem res23 : ∀ w, (resP S Try.f23 fm23.fin w).isSome = true := fun _ => by kernel_rfl
noncomputable def G23 (It : Iter) : Snd S fm23 23 Try.f23 := Snd.run SOK (fun f => match f with
    | 37 => .pure (Snd.row SOK (G37 It) res37)
    | 38 => .pure (Snd.row SOK (G38 It) res38)
    | 39 => .ref (SndR.row SOK (G39 It) pre39 post39)
    | _ => .none) It fm23 23 Try.func23 (names _ _ Try.func23)
/-! 40 (*sibyl/datum.reader).take -/
def fm40 : Frm := ⟨⟨[.lf (.lf (.ptr 0 0))], [.box 4 false [.lf (.row 1 55), .lf (.i .i64), .lf (.i .i64), .lf (.i .i64)], .row 55 false false]⟩, ⟨[], [], []⟩, ⟨spr 37 [(2, .lf (.lf (.ptr 2 0)))], [.box 4 false [.lf (.row 1 55), .lf (.i .i64), .lf (.i .i64), .lf (.i .i64)], .row 55 false false, .box 6 false [.lf (.i .i64), .lf (.s), .lf (.b), .lf (.l 106), .lf (.l 106), .lf (.i .i64)]]⟩⟩
theorem pre40 : ∀ v, (preR S fm40 v).isSome = true := fun _ => by kernel_rfl
theorem post40 : ∀ v w, (postR S fm40 Try.f40 v w).isSome = true := fun _ _ => by kernel_rfl
noncomputable def G40 (It : Iter) : SndR S fm40 40 Try.f40 := SndR.run SOK (fun _ => .none) It fm40 40 Try.func40 (names _ _ Try.func40)
/-! 41 (*sibyl/datum.reader).down -/
def fm41 : Frm := ⟨⟨[.lf (.lf (.ptr 0 0)), .st 55], [.box 4 false [.lf (.row 1 55), .lf (.i .i64), .lf (.i .i64), .lf (.i .i64)], .row 55 false false]⟩, ⟨[], [], []⟩, ⟨spr 20 [], [.box 4 false [.lf (.row 1 55), .lf (.i .i64), .lf (.i .i64), .lf (.i .i64)], .row 55 false false]⟩⟩
theorem pre41 : ∀ v, (preR S fm41 v).isSome = true := fun _ => by kernel_rfl
theorem post41 : ∀ v w, (postR S fm41 Try.f41 v w).isSome = true := fun _ _ => by kernel_rfl
noncomputable def G41 (It : Iter) : SndR S fm41 41 Try.f41 := SndR.run SOK (fun _ => .none) It fm41 41 Try.func41 (names _ _ Try.func41)
noncomputable def G87 (It : Iter) : Snd S fm87 87 Try.f87 := ⟨_, h87⟩
/-! 65 strings.Clone -/
def fm65 : Fm := ⟨[.lf (.lf (.s))], ⟨[], [], []⟩, ⟨spr 5 [(2, .lf (.lf (.s)))], []⟩⟩
theorem res65 : ∀ w, (resP S Try.f65 fm65.fin w).isSome = true := fun _ => by kernel_rfl
noncomputable def G65 (It : Iter) : Snd S fm65 65 Try.f65 := Snd.run SOK (fun f => match f with
    | 87 => .pure (Snd.row SOK (G87 It) res87)
    | _ => .none) It fm65 65 Try.func65 (names _ _ Try.func65)
/-! 43 (*sibyl/datum.reader).atom -/
def fm43 : Frm := ⟨⟨[.lf (.lf (.ptr 0 0)), .st 55], [.box 4 false [.lf (.row 1 55), .lf (.i .i64), .lf (.i .i64), .lf (.i .i64)], .row 55 false false]⟩, ⟨[], [], []⟩, ⟨spr 28 [(4, .lf (.lf (.ptr 2 0)))], [.box 4 false [.lf (.row 1 55), .lf (.i .i64), .lf (.i .i64), .lf (.i .i64)], .row 55 false false, .box 8 false [.lf (.i .i64), .lf (.b), .lf (.l 106), .lf (.l 106), .lf (.b), .lf (.s), .lf (.c (.slice none 0 0)), .lf (.b)]]⟩⟩
theorem pre43 : ∀ v, (preR S fm43 v).isSome = true := fun _ => by kernel_rfl
theorem post43 : ∀ v w, (postR S fm43 Try.f43 v w).isSome = true := fun _ _ => by kernel_rfl
noncomputable def G43 (It : Iter) : SndR S fm43 43 Try.f43 := SndR.run SOK (fun f => match f with
    | 65 => .pure (Snd.row SOK (G65 It) res65)
    | _ => .none) It fm43 43 Try.func43 (names _ _ Try.func43)
/-! 25 (*sibyl/datum.reader).datum -/
def fm25 : Frm := ⟨⟨[.lf (.lf (.ptr 0 0))], [.box 4 false [.lf (.row 1 55), .lf (.i .i64), .lf (.i .i64), .lf (.i .i64)], .row 55 false false]⟩, ⟨[], [], []⟩, ⟨spr 46 [(2, .lf (.lf (.ptr 2 0)))], [.box 4 false [.lf (.row 1 55), .lf (.i .i64), .lf (.i .i64), .lf (.i .i64)], .row 55 false false, .box 8 false [.lf (.i .i64), .lf (.b), .lf (.l 106), .lf (.l 106), .lf (.b), .lf (.s), .lf (.row 3 28), .lf (.b)], .row 28 false false]⟩⟩
theorem pre25 : ∀ v, (preR S fm25 v).isSome = true := fun _ => by kernel_rfl
theorem post25 : ∀ v w, (postR S fm25 Try.f25 v w).isSome = true := fun _ _ => by kernel_rfl
/-! 42 (*sibyl/datum.reader).list -/
def fm42 : Frm := ⟨⟨[.lf (.lf (.ptr 0 0))], [.box 4 false [.lf (.row 1 55), .lf (.i .i64), .lf (.i .i64), .lf (.i .i64)], .row 55 false false]⟩, ⟨[(454, (⟨spr 56 [(0, .lf (.lf (.ptr 0 0))), (2, .lf (.lf (.ptr 2 0))), (3, .lf (.lf (.ptr 3 0))), (21, .lf (.lf (.b)))], [.box 4 false [.lf (.row 1 55), .lf (.i .i64), .lf (.i .i64), .lf (.i .i64)], .row 55 false false, .box 8 false [.lf (.i .i64), .lf (.b), .lf (.c (.slice none 0 0)), .lf (.c (.slice none 0 0)), .lf (.b), .lf (.s), .lf (.c (.slice none 0 0)), .lf (.b)], .box 8 false [.lf (.i .i64), .lf (.b), .lf (.c (.slice none 0 0)), .lf (.c (.slice none 0 0)), .lf (.b), .lf (.s), .lf (.row 4 28), .lf (.b)], .row 28 false false]⟩, false))], [(14, ⟨⟨spr 56 [(0, .lf (.lf (.ptr 0 0))), (2, .lf (.lf (.ptr 2 0))), (3, .lf (.lf (.ptr 3 0)))], [.box 4 false [.lf (.row 1 55), .lf (.i .i64), .lf (.i .i64), .lf (.i .i64)], .row 55 false false, .box 8 false [.lf (.i .i64), .lf (.b), .lf (.c (.slice none 0 0)), .lf (.c (.slice none 0 0)), .lf (.b), .lf (.s), .lf (.c (.slice none 0 0)), .lf (.b)], .box 8 false [.lf (.i .i64), .lf (.b), .lf (.c (.slice none 0 0)), .lf (.c (.slice none 0 0)), .lf (.b), .lf (.s), .lf (.row 4 28), .lf (.b)], .row 28 false false]⟩, none, true⟩)], []⟩, ⟨spr 56 [(2, .lf (.lf (.ptr 2 0)))], [.box 4 false [.lf (.row 1 55), .lf (.i .i64), .lf (.i .i64), .lf (.i .i64)], .row 55 false false, .box 8 false [.lf (.i .i64), .lf (.b), .lf (.c (.slice none 0 0)), .lf (.c (.slice none 0 0)), .lf (.b), .lf (.s), .lf (.row 3 28), .lf (.b)], .row 28 false false]⟩⟩
theorem pre42 : ∀ v, (preR S fm42 v).isSome = true := fun _ => by kernel_rfl
theorem post42 : ∀ v w, (postR S fm42 Try.f42 v w).isSome = true := fun _ _ => by kernel_rfl
noncomputable def Gn25 (It : Iter) : Nat → (SndR S fm25 25 Try.f25) × (SndR S fm42 42 Try.f42)
  | 0 => (SndR.none _ _, SndR.none _ _)
  | n + 1 => (SndR.run SOK (fun f => match f with
    | 25 => .ref (SndR.row SOK (Gn25 It n).1 pre25 post25)
    | 40 => .ref (SndR.row SOK (G40 It) pre40 post40)
    | 41 => .ref (SndR.row SOK (G41 It) pre41 post41)
    | 42 => .ref (SndR.row SOK (Gn25 It n).2 pre42 post42)
    | 43 => .ref (SndR.row SOK (G43 It) pre43 post43)
    | _ => .none) It fm25 25 Try.func25 (names _ _ Try.func25),
   SndR.run SOK (fun f => match f with
    | 25 => .ref (SndR.row SOK (Gn25 It n).1 pre25 post25)
    | 40 => .ref (SndR.row SOK (G40 It) pre40 post40)
    | 43 => .ref (SndR.row SOK (G43 It) pre43 post43)
    | _ => .none) It fm42 42 Try.func42 (names _ _ Try.func42))
noncomputable def G25 (It : Iter) : SndR S fm25 25 Try.f25 := SndR.fuel (fun v => 2 * v.2.2.2.length + 4) (fun n => (Gn25 It n).1)
noncomputable def G42 (It : Iter) : SndR S fm42 42 Try.f42 := SndR.fuel (fun v => 2 * v.2.2.2.length + 4) (fun n => (Gn25 It n).2)
/-! 10 sibyl/datum.Read -/
def fm10 : Fm := ⟨[.lf (.lf (.s))], ⟨[], [], []⟩, ⟨spr 44 [(2, .lf (.lf (.ptr 0 0))), (3, .lf (.lf (.ptr 1 0))), (4, .lf (.lf (.ptr 2 0)))], [.box 8 false [.lf (.i .i64), .lf (.b), .lf (.l 106), .lf (.l 106), .lf (.b), .lf (.s), .lf (.row 3 28), .lf (.b)], .box 1 false [.lf (.i .i64)], .box 1 false [.lf (.i .i64)], .row 28 false false]⟩⟩
theorem res10 : ∀ w, (resP S Try.f10 fm10.fin w).isSome = true := fun _ => by kernel_rfl
/-! ### datum.Read: a call that is put off takes the panic -/
def cL : Code → Code
  | .seq a _ => a
  | c => c
def cR : Code → Code
  | .seq _ b => b
  | c => c
def cOps : Code → Array Oper
  | .region _ o _ => o
  | _ => #[]
def cId : Code → Nat
  | .region i _ _ => i
  | _ => 0
def cT : Code → Code
  | .cond _ a _ => a
  | c => c
def cV : Code → Operand
  | .cond x _ _ => x
  | _ => .const undef
noncomputable def q0 : Code := (Try.f10.body).getD .skip
noncomputable def q1 : Code := cR q0
noncomputable def q2 : Code := cR q1
noncomputable def q3 : Code := cR q2
noncomputable def q4 : Code := cR q3
noncomputable def q5 : Code := cR q4
noncomputable def q6 : Code := cR q5
noncomputable def q7 : Code := cR q6
noncomputable def k0 : Code := (Try.f24.body).getD .skip
noncomputable def k1 : Code := cR k0
def cB : Code → Code
  | .block _ b => b
  | c => c
def cE : Code → Code
  | .cond _ _ b => b
  | c => c
noncomputable def k2 : Code := cT (cR (cE (cR (cB k1))))
noncomputable def k3 : Code := cE (cR (cE (cR (cB k1))))
noncomputable def k4 : Code := cT (cR (cB k1))
theorem body10 : Try.f10.body = some (Code.seq (cL q0) (.seq (cL q1) (.seq (cL q2) (.seq (cL q3) (.seq (.region (cId (cL q4)) (cOps (cL q4)) false) (.seq (.region (cId (cL q5)) (cOps (cL q5)) false) (.seq (.seq (cL (cL q6)) (.cond (cV (cR (cL q6))) (.region (cId (cT (cR (cL q6)))) (cOps (cT (cR (cL q6)))) false) .skip)) q7))))))) := by kernel_rfl
theorem body24 : Try.f24.body = some (Code.seq (.region (cId (cL k0)) (cOps (cL k0)) false) k1) := by kernel_rfl
noncomputable def nx {β : Type} (K : List (SV S.I) → OB S → Option β) : KT S β := fun ex tm ob => match ex with
  | .nrm => K tm ob
  | _ => none
noncomputable def rx {β : Type} (K : List (SV S.I) → OB S → Option β) : KT S β := fun ex tm ob => match ex with
  | .ret => K tm ob
  | _ => none
noncomputable def noC : Calls_ S := fun _ => .none
/-- What a fault tells. -/
def unV : Value → Option (Int × Int)
  | .iface 52 (.agg vs) => match vs.toList with
    | [.int .i64 a, .int .i64 e] => some (a, e)
    | _ => none
  | _ => none
noncomputable def boxes : OB S := [some (.box 8 false (List.replicate 8 .junk)), some (.box 1 false [.junk]), some (.box 1 false [.junk])]
abbrev TF10 := TT S.I fm10.fin.ks
noncomputable def fin10 (tm : List (SV S.I)) (ob : OB S) : Option TF10 := goTo S 0 fm10.fin tm ob fun w => some w
noncomputable def tmF : List (SV S.I) := (((List.replicate 44 (SV.junk : SV S.I)).set 2 (.ptr 0 0 0)).set 3 (.ptr 1 0 0)).set 4 (.ptr 2 0 0)
noncomputable def tmC (a e : Int) : List (SV S.I) := [.ptr 0 0 0, .ptr 1 0 0, .ptr 2 0 0, .c undef, .c undef, .c undef, .ifc 52 (.agg [.i .i64 a, .i .i64 e]), .c undef, .b false, .junk, .b true, .agg [.i .i64 a, .i .i64 e], .c undef, .c undef, .c undef, .c undef, .c undef]
def isP (x : SV S.I) (i : Nat) : Bool := match x with
  | .ptr j p o => j == i && p == 0 && o == 0
  | _ => false
theorem isP_eq {x : SV S.I} {i : Nat} (h : isP x i = true) : x = .ptr i 0 0 := by
  cases x <;> simp [isP] at h
  obtain ⟨⟨rfl, rfl⟩, rfl⟩ := h; rfl
noncomputable def isB (o : Option (SO S.I)) (n : Nat) : Bool := match o with
  | some (.box sz sh cs) => sz == n && !sh
  | _ => false
noncomputable def tmOK (tm : List (SV S.I)) : Bool := isP (tm.getD 2 .junk) 0 && isP (tm.getD 3 .junk) 1 && isP (tm.getD 4 .junk) 2 && Nat.beq tm.length 44
/-- The closure takes the panic: what is answered. -/
noncomputable def clos (It : Iter) (V : Value) (tm : List (SV S.I)) (ob : OB S) : Option TF10 :=
  match unV V with
  | some p => if (tmOK tm && isB (ob.getD 0 none) 8 && isB (ob.getD 1 none) 1 && isB (ob.getD 2 none) 1) = true then
      xC S noC It ⟨[], [], []⟩ ob.length k2 1 TF10 (tmC p.1 p.2) ([ob.getD 0 none, ob.getD 1 none, ob.getD 2 none] ++ List.replicate (ob.length - 3) none) (nx fun _ ob' => fin10 tmF ob')
    else none
  | none => none
section
variable (It : Iter) (C23 : PCall S 23) (C25 : RCall S 25) (N : Nat)
noncomputable def C10 : Calls_ S := fun f => if h : f = 23 then h ▸ .pure C23 else .none
/-- Is each object met from a temporary? -/
noncomputable def refsOK (tm : List (SV S.I)) (ob : OB S) : Bool := (List.range ob.length).all fun id => (ob.getD id none).isNone || tm.any fun x => match x with
  | .ptr i _ _ => i == id
  | .row i _ _ _ => i == id
  | _ => false
noncomputable def x10 (c : Code) (tm : List (SV S.I)) (ob : OB S) (K : KT S TF10) : Option TF10 := xC S (C10 C23) It ⟨[], [], []⟩ N c 1 TF10 tm ob K
noncomputable def p3 (tm : List (SV S.I)) (ob : OB S) : Option TF10 :=
  x10 It C23 N (cL (cL q6)) tm ob (nx fun tm ob => match rho tm (cV (cR (cL q6))) with
    | .b z => if z = true then xOps S noC (cOps (cT (cR (cL q6)))) 0 (cOps (cT (cR (cL q6)))).toList tm ob [] (fun _ _ _ => none) (fun _ tm' ob' _ o _ _ => match o.op with
        | .panic x => (match valS (rho tm' x) with
          | some V => clos It V tm' ob'
          | none => none)
        | _ => none)
      else x10 It C23 N q7 tm ob (rx fin10)
    | _ => none)
noncomputable def p2 (tm : List (SV S.I)) (ob : OB S) : Option TF10 :=
  match (cOps (cL q5)).toList with
  | [o0, o1, o2] => xOps S noC (cOps (cL q5)) 0 [o0] tm ob [] (fun tm1 ob1 xs => match o0.guard, o1.guard, o1.op with
      | none, none, .call ⟨.value fo, args, _⟩ => match rho tm1 fo, args.toList with
        | .fn 25 [] [], [a] => match rho tm1 a with
          | .ptr i p off => xCall S ob1 (.ref (C25.from 3)) [.ptr i p off] (fun y ob2 x => xOps S noC (cOps (cL q5)) 2 [o2] (putS tm1 o1.dst y) ob2 (xs ++ [x]) (fun tm3 ob3 _ => p3 It C23 N tm3 ob3) (fun _ _ _ _ _ _ _ => none)) (fun V => clos It V tm1 ob1)
          | _ => none
        | _, _ => none
      | _, _, _ => none) (fun _ _ _ _ _ _ _ => none)
  | _ => none
noncomputable def p1 (tm : List (SV S.I)) (ob : OB S) : Option TF10 :=
  x10 It C23 0 (cL q1) tm ob (nx fun tm ob => x10 It C23 0 (cL q2) tm ob (fun ex tm ob => match ex with
    | .ret => fin10 tm ob
    | .nrm => x10 It C23 0 (cL q3) tm ob (nx fun tm ob => if (tmOK tm && refsOK tm ob) = true then p2 It C23 C25 ob.length (tm.set 23 .junk) ob else none)
    | _ => none))
noncomputable def F10 (v : Str) : Option TF10 :=
  x10 It C23 0 (cL q0) (.s v :: List.replicate 43 (.c undef)) [] (nx (p1 It C23 C25))
end
theorem unV_eq {V : Value} {a e : Int} (h : unV V = some (a, e)) : V = .iface 52 (.agg #[.int .i64 a, .int .i64 e]) := by
  unfold unV at h
  split at h
  · rename_i vs
    split at h
    · rename_i a' e' hl
      cases h
      congr 2
      exact Array.toList_inj.1 (by rw [hl])
    · cases h
  · cases h
section
variable {base : Nat} {c00 : Ctx}
abbrev SR0 (base : Nat) (c00 : Ctx) (tm : List (SV S.I)) (ob : OB S) (c : Ctx) (a : Act) : Prop := SR base c00 (St []) (fsS S none 0 tm ob) c a
theorem step_code {β : Type} {It : Iter} {C : Calls_ S} (hU : Under S.E base c00 (St [])) {x : Code} {A : Ann} {p : Nat} {tm : List (SV S.I)} {ob : OB S} {K : KT S β} {r : β} (h : xC S C It A 0 x p β tm ob K = some r) {c : Ctx} {a : Act} (hS : SR0 base c00 tm ob c a) {Q : Exit → Act → World → Prop}
    (hK : ∀ ex tm' ob' c' a', K ex tm' ob' = some r → (∀ V, ex ≠ .pan V) → SR0 base c00 tm' ob' c' a' → Q (exq ex) a' c'.w) (hp : ∀ V tm ob, K (.pan V) tm ob = none) : x.wp S.E.P Q a c.w := by
  have := xC_ok SOK (O := []) hU mode_none (.inl rfl) x p β tm ob K r (fun ex s => ∃ tm' ob', K ex tm' ob' = some r ∧ Wk base c00 (St []) s (fsS S none 0 tm' ob')) h (fun ex s s' hw ⟨tm', ob', h1, h2⟩ => ⟨tm', ob', h1, hw.trans h2⟩) (fun ex tm' ob' hk => ⟨tm', ob', hk, Wk.refl⟩)
  refine this c a hS Q (fun ex s1 a' c' hr hs => ?_)
  obtain ⟨tm', ob', h1, h2⟩ := hr
  have fin : (∀ V, ex ≠ .pan V) → SR base c00 (St []) s1 c' a' → Q (exq ex) a' c'.w := fun hn hs => by
    obtain ⟨c'', hw, hs2⟩ := h2 _ _ hs
    rw [← hw]; exact hK _ _ _ _ _ h1 hn hs2
  cases ex with
  | pan V => rw [hp] at h1; cases h1
  | nrm => exact fin nofun hs
  | exit i => exact fin nofun hs
  | ret => exact fin nofun hs
  | goto l => exact fin nofun hs
theorem fin_end {tm : List (SV S.I)} {ob : OB S} {w : TF10} (hU : Under S.E base c00 (St [])) (h : fin10 tm ob = some w) {vs : List (RV S.I)} (hvs : resP S Try.f10 fm10.fin w = some vs) {c : Ctx} {a : Act} (hS : SR0 base c00 tm ob c a) :
    ∃ v, (results Try.f10 a.tmps).run S.E.P c.w = .ok v c.w ∧ EndOf base c00 (St []) (rsAV S vs) nilStore none (.returned v) c.w := by
  unfold fin10 at h
  obtain ⟨v', tm2, ob2, g1, g2, g3⟩ := goTo_ok SOK (O := []) hU mode_none (.inl rfl) h
  cases g1
  obtain ⟨c2, hw, hs2⟩ := g3 _ _ hS
  obtain ⟨v, c3, k1, k2, k3, k4, k5, k6⟩ := return_ok hU.tab hU.inv hs2 (rt_of SOK g2 hvs)
  rw [← hw]
  exact ⟨v, k1, v, c3, rfl, k2, k3, k4, k5, k6⟩
/-- From one begin to the same with other calls put off. -/
def withD (c : Ctx) (d : List Deferred) : Ctx := { c with dfr := d }
theorem stNil {id : Nat} {o : Obj} (h : (St []).ob id = some o) : False := by simp [St] at h
theorem under_D {d : List Deferred} (h : Under S.E base c00 (St [])) : Under S.E base (withD c00 d) (St []) :=
  ⟨h.tab, h.mix, ⟨⟨fun id o L h1 => (stNil h1).elim, fun id o h1 => (stNil h1).elim, fun id id' o o' L L' h1 => (stNil h1).elim, h.inv.core.inn, fun id o L h1 => (stNil h1).elim, h.inv.core.base_le⟩, h.inv.dom, h.inv.old⟩, fun g => Rep.junk, h.full, h.np⟩
theorem sr_D {d : List Deferred} {tm tm' : List (SV S.I)} {ob : OB S} {c : Ctx} {a a' : Act} (h : SR0 base c00 tm ob c a) (hd : a'.defers = d) (htm : ∀ t, Rep c ((avs S tm').getD t .junk) (a'.tmps.getD t undef)) (hsz : a'.tmps.size = (avs S tm').length) : SR0 base (withD c00 d) tm' ob c a' :=
  ⟨h.inv, ⟨h.ext.S, h.ext.cell, h.ext.m, h.ext.size, h.ext.os, h.ext.tape, h.ext.output, h.ext.ty⟩, ⟨h.fr.block, h.fr.mnew, h.fr.bnew, h.fr.snew⟩, h.go, h.c0, htm, hsz, hd, h.foot⟩
/-- What a state tells of a pointer. -/
theorem tm_ptr {tm : List (SV S.I)} {ob : OB S} {c : Ctx} {a : Act} (h : SR0 base c00 tm ob c a) {t i : Nat} (ht : isP (tm.getD t .junk) i = true) : ∃ L, c.m i = some (.at L) ∧ a.tmps.getD t undef = .pointer (some ⟨L.b, L.o + 0 * L.sz + 0, none⟩) := by
  have h1 := h.tm t
  have h2 : (avs S tm).getD t .junk = .ptr i 0 0 := by
    have h3 := isP_eq ht
    rw [List.getD_eq_getElem?_getD, avs_get]
    rw [List.getD_eq_getElem?_getD] at h3
    cases hx : tm[t]? with
    | none => rw [hx] at h3; cases h3
    | some x => rw [hx] at h3; simp only [Option.getD_some] at h3; subst h3; rfl
  rw [show (fsS S none 0 tm ob).tm = avs S tm from rfl, h2] at h1
  generalize a.tmps.getD t undef = u at h1
  cases h1 with
  | ptr L hm => exact ⟨L, hm, rfl⟩
theorem arr1 (l : Array Oper) {x : Op × Option (Nat × Bool) × Option Tmp} (h : (l.toList.map fun o => (o.op, o.guard, o.dst)) = [x]) : ∃ o, l = #[o] ∧ o.op = x.1 ∧ o.guard = x.2.1 ∧ o.dst = x.2.2 := by
  obtain ⟨o, h1, h2⟩ := List.map_eq_singleton_iff.1 h
  refine ⟨o, ?_, ?_⟩
  · exact Array.toList_inj.1 h1
  · rw [← h2]; exact ⟨rfl, rfl, rfl⟩
theorem arr2 (l : Array Oper) {x y : Op × Option (Nat × Bool) × Option Tmp} (h : (l.toList.map fun o => (o.op, o.guard, o.dst)) = [x, y]) : ∃ o p, l = #[o, p] ∧ (o.op = x.1 ∧ o.guard = x.2.1 ∧ o.dst = x.2.2) ∧ p.op = y.1 ∧ p.guard = y.2.1 ∧ p.dst = y.2.2 := by
  obtain ⟨o, t, h1, h2, h3⟩ := List.map_eq_cons_iff.1 h
  obtain ⟨p, h4, h5⟩ := List.map_eq_singleton_iff.1 h3
  refine ⟨o, p, ?_, ?_⟩
  · exact Array.toList_inj.1 (by rw [h1, h4])
  · rw [← h2, ← h5]; exact ⟨⟨rfl, rfl, rfl⟩, rfl, rfl, rfl⟩
theorem run_defer {ρ : Operand → Value} {p : Oper} {x : Operand} {ts : Array TypeId} {f : Fn} {cv : Array Value} {P : Program} {w : World} (h : p.op = .defer ⟨.value x, #[], ts⟩) (hx : ρ x = .func f #[] cv) : (execOp ρ p).run P w = .ok (.defer ⟨.fn f cv, #[]⟩) w := by
  simp [execOp, h, resolve, hx, Deferred.ofValue]
theorem kr_ex' : ((cOps (cL k0)).toList.map fun o => (o.op, o.guard, o.dst)) = [(.call ⟨.builtin .recover, #[], #[]⟩, none, some 6)] := by kernel_rfl
theorem kr_ex : ∃ o, cOps (cL k0) = #[o] ∧ o.op = .call ⟨.builtin .recover, #[], #[]⟩ ∧ o.guard = none ∧ o.dst = some 6 := by
  have h := kr_ex'
  generalize cOps (cL k0) = l at h ⊢
  exact arr1 l h
theorem kd_ex' : ((cOps (cL q4)).toList.map fun o => (o.op, o.guard, o.dst)) = [(.makeFunc (.func 24) #[] #[.tmp 2, .tmp 3, .tmp 4], none, some 23), (.defer ⟨.value (.tmp 23), #[], #[]⟩, none, none)] := by kernel_rfl
theorem kd_ex : ∃ o p, cOps (cL q4) = #[o, p] ∧ (o.op = .makeFunc (.func 24) #[] #[.tmp 2, .tmp 3, .tmp 4] ∧ o.guard = none ∧ o.dst = some 23) ∧ p.op = .defer ⟨.value (.tmp 23), #[], #[]⟩ ∧ p.guard = none ∧ p.dst = none := by
  have h := kd_ex'
  generalize cOps (cL q4) = l at h ⊢
  exact arr2 l h
/-- The region that puts the call off. -/
theorem defer_ok {tm : List (SV S.I)} {ob : OB S} {c : Ctx} {a : Act} (hS : SR0 base c00 tm ob c a) (h0 : a.defers = []) (hlen : tm.length = 44) {Q : Exit → Act → World → Prop} {id : Nat}
    (hQ : ∀ a' d, a'.defers = [d] → d.target = .fn (.func 24) #[a.tmps.getD 2 undef, a.tmps.getD 3 undef, a.tmps.getD 4 undef] → d.args = #[] → (∀ t, t ≠ 23 → a'.tmps.getD t undef = a.tmps.getD t undef) → SR0 base (withD c00 [d]) (tm.set 23 .junk) ob c a' → Q .normal a' c.w) :
    (Code.region id (cOps (cL q4)) false).wp S.E.P Q a c.w := by
  obtain ⟨o, p, ho, ⟨h1, h2, h3⟩, h4, h5, h6⟩ := kd_ex
  rw [ho]
  refine wp_region_list ?_
  have hsz : a.tmps.size = 44 := by rw [hS.sz]; simp [fsS, avs_length, hlen]
  refine wpList_step fun K hK => ?_
  simp only [Region.wanted, h2, if_true]
  unfold Oper.wp
  have r1 : (execOp a.eval o).run S.E.P c.w = .ok (.value (.func (.func 24) #[] #[a.tmps.getD 2 undef, a.tmps.getD 3 undef, a.tmps.getD 4 undef])) c.w := by
    simp [execOp, h1, Instr.makeFunc, Act.eval]
  rw [r1, Oper.upon_value, h3]
  refine hK _ _ (wpList_step fun K2 hK2 => ?_)
  simp only [Region.wanted, h5, if_true]
  unfold Oper.wp
  have r2 : (execOp (a.put (some 23) (.func (.func 24) #[] #[a.tmps.getD 2 undef, a.tmps.getD 3 undef, a.tmps.getD 4 undef])).eval p).run S.E.P c.w = .ok (.defer ⟨.fn (.func 24) #[a.tmps.getD 2 undef, a.tmps.getD 3 undef, a.tmps.getD 4 undef], #[]⟩) c.w := by
    refine run_defer h4 ?_
    simp [Act.put, Act.eval, Array.getD, hsz]
  rw [r2, Oper.upon_defer, h6]
  refine hK2 _ _ ?_
  have hg : ∀ t, t ≠ 23 → ((a.put (some 23) (.func (.func 24) #[] #[a.tmps.getD 2 undef, a.tmps.getD 3 undef, a.tmps.getD 4 undef])).tmps).getD t undef = a.tmps.getD t undef := fun t ht => by
    simp only [Act.put, Array.getD_eq_getD_getElem?]
    rw [Array.getElem?_setIfInBounds_ne (by omega)]
  refine hQ _ _ (by show _ :: a.defers = _; rw [h0]) rfl rfl hg (sr_D hS (by show _ :: a.defers = _; rw [h0]) (fun t => ?_) ?_)
  · by_cases ht : t = 23
    · subst ht
      have : (avs S (tm.set 23 .junk)).getD 23 .junk = .junk := by
        rw [avs_set, List.getD_eq_getElem?_getD, List.getElem?_set]; simp [avs_length, hlen, av]
      rw [this]; exact .junk
    · have h1 := hS.tm t
      have : (avs S (tm.set 23 .junk)).getD t .junk = (avs S tm).getD t .junk := by
        rw [avs_set, List.getD_eq_getElem?_getD, List.getD_eq_getElem?_getD, List.getElem?_set_ne (by omega)]
      rw [this]
      show Rep c _ (((a.put (some 23) _).tmps).getD t undef)
      rw [hg t ht]; exact h1
  · show ((a.put (some 23) _).tmps).size = _
    simp only [Act.put, Array.size_setIfInBounds, avs_set, List.length_set, avs_length]
    rw [hsz, hlen]
theorem body24' : Try.f24.body = some (.seq (.region (cId (cL k0)) (cOps (cL k0)) false) k1) := body24
theorem run_recover {ρ : Operand → Value} {o : Oper} {P : Program} {w : World} (h : o.op = .call ⟨.builtin .recover, #[], #[]⟩) : (execOp ρ o).run P w = .ok .recover w := by
  simp [execOp, h, resolve, invoke]
  rfl
theorem res24 (tmps : Array Value) (P : Program) (w : World) : (results Try.f24 tmps).run P w = .ok (.tuple #[]) w := by
  have h : Try.f24.results = #[] := by kernel_rfl
  simp [results, h]
theorem gl_junk {c : Ctx} : GlOK S.E c := fun g => Rep.junk
theorem CallsD.mono {P : Program} {f : FuncId} {args : Array Value} {u : FrameMode} {w : World} {R R' : Ending → FrameMode → World → Prop} (h : CallsD P f args u w R) (k : ∀ e u' w', R e u' w' → R' e u' w') : CallsD P f args u w R' :=
  fun c cs hc => by
    obtain ⟨e, u', w', fr, h1, h2⟩ := h c cs hc
    exact ⟨e, u', w', fr, k _ _ _ h1, h2⟩
theorem tmC_av (a e : Int) : avs S (tmC a e) = [.ptr 0 0 0, .ptr 1 0 0, .ptr 2 0 0, .v undef, .v undef, .v undef, .ifc 52 (.agg [.v (.int .i64 a), .v (.int .i64 e)]), .v undef, .v (.bool false), .junk, .v (.bool true), .agg [.v (.int .i64 a), .v (.int .i64 e)], .v undef, .v undef, .v undef, .v undef, .v undef] := by kernel_rfl
theorem act_pan (u0 u1 u2 V : Value) : (({ tmps := #[u0, u1, u2] ++ Array.replicate (Try.f24.ntmps - (#[u0, u1, u2] : Array Value).size) undef, defers := [] } : Act).put (some 6) V) = { tmps := #[u0, u1, u2, undef, undef, undef, V, undef, undef, undef, undef, undef, undef, undef, undef, undef, undef], defers := [] } := by kernel_rfl
theorem rep_arr {c : Ctx} : ∀ {xs : Cs} {us : List Value}, xs.length = us.length → (∀ (j : Nat) x u, xs[j]? = some x → us[j]? = some u → Rep c x u) → ∀ t, Rep c (xs.getD t .junk) (us.toArray.getD t undef) := by
  intro xs us hl h t
  rw [List.getD_eq_getElem?_getD, Array.getD_eq_getD_getElem?, List.getElem?_toArray]
  cases hx : xs[t]? with
  | none => exact .junk
  | some x =>
    have hlt : t < us.length := by rw [← hl]; exact (List.getElem?_eq_some_iff.1 hx).1
    rw [List.getElem?_eq_getElem hlt]
    exact h t x _ hx (List.getElem?_eq_getElem hlt)
theorem reps_nil {c : Ctx} : ∀ (j : Nat) (x : AV) (u : Value), ([] : Cs)[j]? = some x → ([] : List Value)[j]? = some u → Rep c x u := fun j x u h => by simp at h
theorem reps_cons {c : Ctx} {y : AV} {v : Value} {xs : Cs} {us : List Value} (h0 : Rep c y v) (h : ∀ (j : Nat) x u, xs[j]? = some x → us[j]? = some u → Rep c x u) : ∀ (j : Nat) x u, (y :: xs)[j]? = some x → (v :: us)[j]? = some u → Rep c x u
  | 0, x, u, h1, h2 => by simp at h1 h2; subst h1; subst h2; exact h0
  | j + 1, x, u, h1, h2 => h j x u (by simpa using h1) (by simpa using h2)
theorem rep_fa {c : Ctx} {a e : Int} : Rep c (.agg [.v (.int .i64 a), .v (.int .i64 e)]) (.agg #[.int .i64 a, .int .i64 e]) :=
  .agg rfl fun j x u hj hu => reps_cons (.v _) (reps_cons (.v _) reps_nil) j x u hj (by simpa using hu)
abbrev tmV (u0 u1 u2 : Value) (a e : Int) : List Value := [u0, u1, u2, undef, undef, undef, .iface 52 (.agg #[.int .i64 a, .int .i64 e]), undef, .bool false, .tuple #[.agg #[.int .i64 a, .int .i64 e], .bool true], .bool true, .agg #[.int .i64 a, .int .i64 e], undef, undef, undef, undef, undef]
theorem tmC_rep {c : Ctx} {a e : Int} {u0 u1 u2 : Value} (h0 : Rep c (.ptr 0 0 0) u0) (h1 : Rep c (.ptr 1 0 0) u1) (h2 : Rep c (.ptr 2 0 0) u2) (t : Nat) : Rep c ((avs S (tmC a e)).getD t .junk) ((tmV u0 u1 u2 a e).toArray.getD t undef) := by
  rw [tmC_av]
  have U : Rep c (.v undef) undef := .v _
  exact rep_arr (us := tmV u0 u1 u2 a e) rfl
    (reps_cons h0 (reps_cons h1 (reps_cons h2 (reps_cons U (reps_cons U (reps_cons U (reps_cons (.ifc rep_fa) (reps_cons U (reps_cons (.v _) (reps_cons .junk (reps_cons (.v _) (reps_cons rep_fa (reps_cons U (reps_cons U (reps_cons U (reps_cons U (reps_cons U reps_nil))))))))))))))))) t
theorem k1_eq : k1 = .block 0 (.seq (.region 3 #[{ dst := some 8, op := .binOp .eql 20 (.tmp 6) (.const .nilIface) 20, type := 4, pos := "datum.go:33", after := #[], guard := none }] false) (.cond (.tmp 8) k4 (.seq (.region 5
  #[{ dst := some 9, op := .typeAssert (.tmp 6) 20 52 true, type := 0, pos := "datum.go:33", after := #[], guard := none },
    { dst := some 10, op := .extract (.tmp 9) 1, type := 4, pos := "datum.go:33", after := #[{ on := 0, ground := .data }], guard := none },
    { dst := some 11, op := .extract (.tmp 9) 0, type := 52, pos := "datum.go:33", after := #[{ on := 0, ground := .data }], guard := none }] false) (.cond (.tmp 10) k2 k3)))) := by kernel_rfl
theorem run_ta (v : Value) (w : World) : (Instr.typeAssert (.iface 52 v) 20 52 true).run Try.prog w = .ok (.tuple #[v, .bool true]) w := by
  simp [Instr.typeAssert]
theorem k1_take (u0 u1 u2 : Value) (a e : Int) (w : World) (Q : Exit → Act → World → Prop)
  (h : k2.wp Try.prog (Exit.inBlock 0 Q) { tmps := #[u0, u1, u2, undef, undef, undef, .iface 52 (.agg #[.int .i64 a, .int .i64 e]), undef, .bool false, .tuple #[.agg #[.int .i64 a, .int .i64 e], .bool true], .bool true, .agg #[.int .i64 a, .int .i64 e], undef, undef, undef, undef, undef], defers := [] } w) :
  k1.wp Try.prog Q { tmps := #[u0, u1, u2, undef, undef, undef, .iface 52 (.agg #[.int .i64 a, .int .i64 e]), undef, undef, undef, undef, undef, undef, undef, undef, undef, undef], defers := [] } w := by
  rw [k1_eq]
  generalize k2 = kk at h
  generalize k3 = k3
  generalize k4 = k4
  have hTA := run_ta (.agg #[.int .i64 a, .int .i64 e])
  go_wp2
  exact h
theorem tmF_av : avs S tmF = .junk :: .junk :: .ptr 0 0 0 :: .ptr 1 0 0 :: .ptr 2 0 0 :: List.replicate 39 .junk := by kernel_rfl
theorem obs3 {ob : OB S} (h : 3 ≤ ob.length) : obs S ([ob.getD 0 none, ob.getD 1 none, ob.getD 2 none] ++ List.replicate (ob.length - 3) none) = (obs S ob).take 3 ++ List.replicate ((obs S ob).length - 3) none := by
  match ob, h with
  | x :: y :: z :: l, _ => simp [obs]
theorem isB_len {ob : OB S} {n i : Nat} (h : isB (ob.getD i none) n = true) : i < ob.length := by
  rcases Nat.lt_or_ge i ob.length with h1 | h1
  · exact h1
  · rw [List.getD_eq_getElem?_getD, List.getElem?_eq_none h1] at h; cases h
theorem wpOpsS_recover {P : Program} {ops : Array Oper} {Q : Exit → Act → List Frame → World → Prop} {o : Oper} {a : Act} {cs : List Frame} {w : World} (hops : ops = #[o]) (h1 : o.op = .call ⟨.builtin .recover, #[], #[]⟩) (h2 : o.guard = none)
    (h : match recoverD cs with
      | some (v, cs') => Q .normal (a.put o.dst v) cs' w
      | none => Q .normal (a.put o.dst .nilIface) cs w) : wpOpsS P ops Q (List.range ops.size) a cs w := by
  subst hops
  have hr : List.range (#[o] : Array Oper).size = [0] := rfl
  rw [hr]
  simp only [wpOpsS, List.getElem?_toArray, List.getElem?_cons_zero, Region.wanted, h2, if_true]
  rw [run_recover h1]
  simp only
  split
  · rename_i v cs' hrec; rw [hrec] at h; exact h
  · rename_i hrec; rw [hrec] at h; exact h
theorem clos_ok {It : Iter} {V : Value} {tm : List (SV S.I)} {ob : OB S} {w : TF10} (hU : Under S.E base c00 (St [])) (h0 : ∀ id, c00.m id = none) (h : clos It V tm ob = some w) {c1 c' : Ctx} {a : Act} (hS : SR0 base c00 tm ob c1 a) (e : Ext c1 c') (f : Fr c1 (St (obs S ob)) (some 3) c') :
    CallsD S.E.P 24 #[a.tmps.getD 2 undef, a.tmps.getD 3 undef, a.tmps.getD 4 undef] (.panicking (panOf V)) c'.w fun en u' w' => (∃ v, en = .returned v) ∧ u' = .panicking [{ v := V, recovered := true }] ∧ ∃ tm' ob' c2, c2.w = w' ∧ fin10 tm' ob' = some w ∧ SR0 base c00 tm' ob' c2 a := by
  unfold clos at h
  split at h
  · rename_i p hV
    obtain ⟨a0, e0⟩ := p
    obtain rfl := unV_eq hV
    split at h
    · rename_i hc
      simp only [Bool.and_eq_true, tmOK] at hc
      obtain ⟨⟨⟨⟨⟨⟨t2, t3⟩, t4⟩, tl⟩, b0⟩, b1⟩, b2⟩ := hc
      have hlen := isB_len b2
      have hO := obs3 (ob := ob) hlen
      obtain ⟨L0, m0, v0⟩ := tm_ptr hS t2
      obtain ⟨L1, m1, v1⟩ := tm_ptr hS t3
      obtain ⟨L2, m2, v2⟩ := tm_ptr hS t4
      generalize hOd : (([ob.getD 0 none, ob.getD 1 none, ob.getD 2 none] ++ List.replicate (ob.length - 3) none) : OB S) = O at h hO
      have hOl : (obs S O).length = ob.length := by rw [obs_len, ← hOd]; simp; omega
      have hkeep := keep_inv (base := base) hS.inv e f hO (by rw [obs_len]; exact hlen) (fun id hid => by
        match id, hid with
        | 0, _ => rw [m0]; exact nofun
        | 1, _ => rw [m1]; exact nofun
        | 2, _ => rw [m2]; exact nofun)
      rw [obs_len] at hkeep
      have k0m := keepC_of (N := ob.length) (c' := c') m0
      have k1m := keepC_of (N := ob.length) (c' := c') m1
      have k2m := keepC_of (N := ob.length) (c' := c') m2
      have hUK : Under S.E base (keepC ob.length c1 c') (St (obs S O)) := ⟨SOK.tab, SOK.mix, hkeep, gl_junk, fun id hid => by
        have hid : id < ob.length := by rw [← hOl]; exact hid
        simp only [keepC]
        split
        · exact nofun
        · rw [if_pos hid]; exact nofun, SOK.np⟩
      have hex := keep_ext (N := ob.length) h0 hS.ext e
      have hfr := keep_fr (base := base) (b := 3) (N := ob.length) hS.inv h0 hS.ext e f hS.fr
      rw [v0, v1, v2]
      refine callsD_of_wpS Try.func24 body24' fun c₀ cs hm => wpS_seq (wpS_region ?_)
      obtain ⟨o, ho, r1, r2, r3⟩ := kr_ex
      refine wpOpsS_recover ho r1 r2 ?_
      have hrec : recoverD (c₀ :: cs) = some (.iface 52 (.agg #[.int .i64 a0, .int .i64 e0]), { c₀ with mode := .panicking [{ v := .iface 52 (.agg #[.int .i64 a0, .int .i64 e0]), recovered := true }] } :: cs) := by
        simp [recoverD, hm, panOf]
      rw [hrec, r3]
      refine wpS_of_wp ?_
      rw [act_pan]
      refine k1_take (.pointer (some ⟨L0.b, L0.o + 0 * L0.sz + 0, none⟩)) (.pointer (some ⟨L1.b, L1.o + 0 * L1.sz + 0, none⟩)) (.pointer (some ⟨L2.b, L2.o + 0 * L2.sz + 0, none⟩)) a0 e0 c'.w _ ?_
      have h' : xC S noC It ⟨[], [], []⟩ (obs S O).length k2 1 TF10 (tmC a0 e0) O (nx fun _ ob' => fin10 tmF ob') = some w := by rw [hOl]; exact h
      have W := xC_ok SOK (O := obs S O) hUK (low := some 0) (c0 := (obs S O).length) (mode_some _) (.inr rfl) k2 1 _ _ _ _ _ (fun ex s => ex = .nrm ∧ ∃ tm' ob', fin10 tmF ob' = some w ∧ Wk base (keepC ob.length c1 c') (St (obs S O)) s (fsS S (some 0) (obs S O).length tm' ob')) h'
        (fun ex s s' hw hh => ⟨hh.1, hh.2.choose, hh.2.choose_spec.choose, hh.2.choose_spec.choose_spec.1, hw.trans hh.2.choose_spec.choose_spec.2⟩)
        (fun ex tm' ob' hk => by
          unfold nx at hk
          cases ex <;> simp only [reduceCtorEq] at hk
          exact ⟨rfl, tm', ob', hk, Wk.refl⟩)
      have hst : SR base (keepC ob.length c1 c') (St (obs S O)) (fsS S (some 0) (obs S O).length (tmC a0 e0) O) (keepC ob.length c1 c') { tmps := (tmV (.pointer (some ⟨L0.b, L0.o + 0 * L0.sz + 0, none⟩)) (.pointer (some ⟨L1.b, L1.o + 0 * L1.sz + 0, none⟩)) (.pointer (some ⟨L2.b, L2.o + 0 * L2.sz + 0, none⟩)) a0 e0).toArray, defers := [] } :=
        ⟨hkeep, Ext.refl _, Fr.refl _ _ _, StGo.refl _, rfl, fun t => tmC_rep (.ptr L0 k0m) (.ptr L1 k1m) (.ptr L2 k2m) t, by show 17 = (avs S (tmC a0 e0)).length; rw [tmC_av]; rfl, rfl, fun _ _ _ => rfl⟩
      refine W _ _ hst _ (fun ex s1 a' c2 hr hs => ?_)
      obtain ⟨rfl, tm', ob', g1, g2⟩ := hr
      obtain ⟨c3, hw3, hs3⟩ := g2 _ _ hs
      refine ⟨hs3.dfr, _, rfl, _, res24 _ _ _, ⟨_, rfl⟩, rfl, tmF, ob', c3, hw3, g1, ?_⟩
      have hp : ∀ {i : Nat} {L : Loc}, (keepC ob.length c1 c').m i = some (.at L) → Rep c3 (.ptr i 0 0) (.pointer (some ⟨L.b, L.o + 0 * L.sz + 0, none⟩)) := fun hm => .ptr _ (hs3.ext.m _ _ hm)
      refine ⟨hs3.inv, hex.trans hs3.ext, fr_two hkeep h0 hex hfr hs3.fr, ⟨Nat.zero_le _, fun id o ho => .inr ⟨Nat.zero_le _, hs3.inv.old id o ho⟩⟩, rfl, fun t => ?_, ?_, hS.dfr, fun id hid => absurd hid (Nat.not_lt_zero _)⟩
      · rw [show (fsS S none 0 tmF ob').tm = avs S tmF from rfl, tmF_av]
        match t with
        | 0 => exact .junk
        | 1 => exact .junk
        | 2 => rw [v0]; exact hp k0m
        | 3 => rw [v1]; exact hp k1m
        | 4 => rw [v2]; exact hp k2m
        | n + 5 =>
          have : (AV.junk :: AV.junk :: AV.ptr 0 0 0 :: AV.ptr 1 0 0 :: AV.ptr 2 0 0 :: List.replicate 39 AV.junk).getD (n + 5) .junk = .junk := by
            rw [List.getD_eq_getElem?_getD]
            simp only [List.getElem?_cons_succ, List.getElem?_replicate]
            split <;> rfl
          rw [this]; exact .junk
      · rw [show (fsS S none 0 tmF ob').tm = avs S tmF from rfl, tmF_av, hS.sz]
        show (avs S tm).length = 44
        rw [avs_length]; exact Nat.eq_of_beq_eq_true tl
    · cases h
  · cases h
theorem k1_nil (u0 u1 u2 : Value) (w : World) (Q : Exit → Act → World → Prop) (hQ : ∀ a, a.defers = [] → Q .normal a w) : k1.wp Try.prog Q { tmps := #[u0, u1, u2, undef, undef, undef, .nilIface, undef, undef, undef, undef, undef, undef, undef, undef, undef, undef], defers := [] } w := by
  delta k1 k0 Try.f24
  dsimp only [Option.getD, cR]
  go_wp2
  rfl
theorem act_nil (u0 u1 u2 : Value) : (({ tmps := #[u0, u1, u2] ++ Array.replicate (Try.f24.ntmps - (#[u0, u1, u2] : Array Value).size) undef, defers := [] } : Act).put (some 6) .nilIface) = { tmps := #[u0, u1, u2, undef, undef, undef, .nilIface, undef, undef, undef, undef, undef, undef, undef, undef, undef, undef], defers := [] } := by kernel_rfl
theorem clos_nil (u0 u1 u2 : Value) (w : World) : CallsD S.E.P 24 #[u0, u1, u2] .returning w fun e u' w' => (∃ v, e = .returned v) ∧ u' = .returning ∧ w' = w := by
  refine callsD_of_wpS Try.func24 body24' fun c₀ cs hm => wpS_seq (wpS_region ?_)
  obtain ⟨o, ho, r1, r2, r3⟩ := kr_ex
  refine wpOpsS_recover ho r1 r2 ?_
  have hrec : recoverD (c₀ :: cs) = none := by simp [recoverD, hm]
  rw [hrec, r3, act_nil]
  refine wpS_of_wp (k1_nil u0 u1 u2 w _ fun a ha => ⟨ha, .returning, ?_, _, res24 _ _ _, ⟨_, rfl⟩, rfl, rfl⟩)
  rw [← hm]
theorem inv24 {d : Deferred} {u0 u1 u2 : Value} {w : World} (h1 : d.target = .fn (.func 24) #[u0, u1, u2]) (h2 : d.args = #[]) : (invoke d.target d.args).run S.E.P w = .ok (.enter 24 #[u0, u1, u2]) w := by
  rw [h1, h2]; rfl
theorem end_D {d : List Deferred} {r : AV} {e : Ending} {w : World} (h : EndOf base (withD c00 d) (St []) r nilStore none e w) : EndOf base c00 (St []) r nilStore none e w := by
  obtain ⟨v, c', h1, h2, h3, h4, h5, h6⟩ := h
  exact ⟨v, c', h1, h2, ⟨h3.S, h3.cell, h3.m, h3.size, h3.os, h3.tape, h3.output, h3.ty⟩, h4, h5, ⟨h6.block, h6.mnew, h6.bnew, h6.snew⟩⟩
abbrev R10 (base : Nat) (c00 : Ctx) (vs : List (RV S.I)) : Ending → World → Prop := EndOf base c00 (St []) (rsAV S vs) nilStore none
theorem leave_ret {d : Deferred} {u0 u1 u2 : Value} (hd : d.target = .fn (.func 24) #[u0, u1, u2]) (hd' : d.args = #[]) (hU : Under S.E base c00 (St [])) {tm : List (SV S.I)} {ob : OB S} {w : TF10} {vs : List (RV S.I)} (hvs : resP S Try.f10 fm10.fin w = some vs) (h : fin10 tm ob = some w) {c : Ctx} {a : Act}
    (hS : SR0 base (withD c00 [d]) tm ob c a) : bodyPostD S.E.P Try.f10 (R10 base c00 vs) .ret a c.w := by
  show Leaves S.E.P Try.f10 a.tmps _ a.defers .returning c.w
  rw [show a.defers = [d] from hS.dfr]
  refine ⟨nofun, _, _, _, _, hd, inv24 hd hd', (clos_nil u0 u1 u2 c.w).mono fun e u' w' he => ?_⟩
  obtain ⟨⟨v, rfl⟩, rfl, rfl⟩ := he
  obtain ⟨v, k1, k2⟩ := fin_end (under_D hU) h hvs hS
  exact ⟨v, k1, end_D k2⟩
theorem leave_pan {d : Deferred} {It : Iter} {V : Value} (hU : Under S.E base c00 (St [])) (h0 : ∀ id, c00.m id = none) {tm : List (SV S.I)} {ob : OB S} {w : TF10} {vs : List (RV S.I)} (hvs : resP S Try.f10 fm10.fin w = some vs) (h : clos It V tm ob = some w) {c1 c' : Ctx} {a : Act}
    (hd : d.target = .fn (.func 24) #[a.tmps.getD 2 undef, a.tmps.getD 3 undef, a.tmps.getD 4 undef]) (hd' : d.args = #[]) (hS : SR0 base (withD c00 [d]) tm ob c1 a) (e : Ext c1 c') (f : Fr c1 (St (obs S ob)) (some 3) c') : bodyPostD S.E.P Try.f10 (R10 base c00 vs) (.panic (panOf V)) a c'.w := by
  show Leaves S.E.P Try.f10 a.tmps _ a.defers (.panicking (panOf V)) c'.w
  rw [show a.defers = [d] from hS.dfr]
  refine ⟨nofun, _, _, _, _, hd, inv24 hd hd', (clos_ok (c00 := withD c00 [d]) (under_D hU) h0 h hS e f).mono fun e u' w' he => ?_⟩
  obtain ⟨⟨v, rfl⟩, rfl, tm', ob', c2, rfl, g1, g2⟩ := he
  obtain ⟨v, k1, k2⟩ := fin_end (under_D hU) g1 hvs g2
  exact ⟨v, k1, end_D k2⟩
def keepAll (N : Nat) (d : List Deferred) (c : Ctx) : Ctx := { c with
  m := fun id => (match c.m id with
    | some l => some l
    | none => if id < N then some .virt else none)
  dfr := d }
theorem keepAll_ext {N : Nat} {d : List Deferred} {c : Ctx} : Ext c (keepAll N d c) := ⟨fun _ h => h, fun _ _ => rfl, fun id l h => (by simp only [keepAll, h]), Nat.le_refl _, rfl, rfl, rfl, fun _ _ h => h⟩
theorem keepAll_at {N : Nat} {d : List Deferred} {c : Ctx} {id : Nat} {L : Loc} (h : (keepAll N d c).m id = some (.at L)) : c.m id = some (.at L) := by
  simp only [keepAll] at h
  split at h
  · rename_i l hl; rw [hl]; exact h
  · split at h <;> cases h
theorem placed {tm : List (SV S.I)} {ob : OB S} {c : Ctx} {a : Act} (hS : SR0 base c00 tm ob c a) (hr : refsOK tm ob = true) : ∀ id o, (St (obs S ob)).ob id = some o → c.m id ≠ none := by
  intro id o ho
  have hlt : id < ob.length := by have := hS.inv.old id o ho; simpa [fsS, St, obs_len] using this
  have h1 := List.all_eq_true.1 hr id (List.mem_range.2 hlt)
  rw [Bool.or_eq_true] at h1
  rcases h1 with h1 | h1
  · exfalso
    rw [List.getD_eq_getElem?_getD, List.getElem?_eq_getElem hlt] at h1
    simp only [Option.getD_some, Option.isNone_iff_eq_none] at h1
    simp [St, obs, h1, List.getElem?_eq_getElem hlt] at ho
  · obtain ⟨x, hx, h2⟩ := List.any_eq_true.1 h1
    obtain ⟨t, ht, rfl⟩ := List.getElem_of_mem hx
    have h3 := hS.tm t
    have h4 : (fsS S none 0 tm ob).tm.getD t .junk = av S tm[t] := by
      rw [show (fsS S none 0 tm ob).tm = avs S tm from rfl, List.getD_eq_getElem?_getD, avs_get, List.getElem?_eq_getElem ht]; rfl
    rw [h4] at h3
    generalize tm[t] = x at h2 h3
    split at h2
    · rename_i i p off
      have : i = id := by simpa using h2
      subst this
      generalize a.tmps.getD t undef = u at h3
      cases h3 with
      | ptr L hm => rw [hm]; exact nofun
    · rename_i i ty lo n
      have : i = id := by simpa using h2
      subst this
      generalize a.tmps.getD t undef = u at h3
      simp only [av] at h3
      cases h3 with
      | row L hm => rw [hm]; exact nofun
      | row0 hm => rw [hm]; exact nofun
    · cases h2
theorem keepAll_inv {N : Nat} {d : List Deferred} {ob : OB S} {c : Ctx} (hI : Inv (St (obs S ob)) c base) (hN : N = ob.length) (hp : ∀ id o, (St (obs S ob)).ob id = some o → c.m id ≠ none) : Inv (St (obs S ob)) (keepAll N d c) base := by
  have hv : ∀ id o, (St (obs S ob)).ob id = some o → (keepAll N d c).m id = c.m id := fun id o ho => by
    cases hx : c.m id with
    | none => exact absurd hx (hp id o ho)
    | some l => simp [keepAll, hx]
  refine ⟨⟨fun id o L h1 h2 => ?_, fun id o h1 h2 => hI.core.virt id o h1 (by rw [← hv id o h1]; exact h2), fun id id' o o' L L' h1 h2 h3 h4 h5 => hI.core.apart id id' o o' L L' h1 h2 (keepAll_at h3) (keepAll_at h4) h5, hI.core.inn, fun id o L h1 h2 => hI.core.free id o L h1 (keepAll_at h2), hI.core.base_le⟩, fun id l h => ?_, hI.old⟩
  · have hok := hI.core.obj id o L h1 (keepAll_at h2)
    obtain ⟨arr, T, m1, m2, m3⟩ := hok.mem
    exact ⟨hok.sz, hok.base, hok.tot, hok.wid, hok.leafs, hok.flat, arr, T, m1, m2, fun i e j x hi hj => by
      obtain ⟨u, u1, u2, u3⟩ := m3 i e j x hi hj
      exact ⟨u, u1, u2.mono keepAll_ext, u3⟩⟩
  · simp only [keepAll] at h
    split at h
    · rename_i l' hl; exact hI.dom id l' hl
    · split at h
      · rename_i hlt; show id < (obs S ob).length; rw [obs_len, ← hN]; exact hlt
      · cases h
/-- The state behind the call that is put off, told anew. -/
abbrev SR1 (base : Nat) (cs : Ctx) (O : List (Option Obj)) (tm : List (SV S.I)) (ob : OB S) (c : Ctx) (a : Act) : Prop := SR base cs (St O) (fsS S (some 0) O.length tm ob) c a
structure Begun (base : Nat) (c00 cs : Ctx) (O : List (Option Obj)) (d : Deferred) (L0 L1 L2 : Loc) : Prop where
  under : Under S.E base cs (St O)
  ext : Ext c00 cs
  fr : Fr c00 (St []) none cs
  dfr : cs.dfr = [d]
  m0 : cs.m 0 = some (.at L0)
  m1 : cs.m 1 = some (.at L1)
  m2 : cs.m 2 = some (.at L2)
theorem SR1.back {cs : Ctx} {O : List (Option Obj)} {d : Deferred} {L0 L1 L2 : Loc} (h0 : ∀ id, c00.m id = none) (hB : Begun base c00 cs O d L0 L1 L2) {tm : List (SV S.I)} {ob : OB S} {c : Ctx} {a : Act} (hS : SR1 base cs O tm ob c a) : SR0 base (withD c00 [d]) tm ob c a := by
  have e := hB.ext.trans hS.ext
  have f := fr_two hB.under.inv h0 hB.ext hB.fr hS.fr
  exact ⟨hS.inv, ⟨e.S, e.cell, e.m, e.size, e.os, e.tape, e.output, e.ty⟩, ⟨f.block, f.mnew, f.bnew, f.snew⟩, ⟨Nat.zero_le _, fun id o ho => .inr ⟨Nat.zero_le _, hS.inv.old id o ho⟩⟩, rfl, hS.tm, hS.sz, hS.dfr.trans hB.dfr, fun id hid => absurd hid (Nat.not_lt_zero _)⟩
theorem begun {d : Deferred} (hU : Under S.E base c00 (St [])) (h0 : ∀ id, c00.m id = none) {tm : List (SV S.I)} {ob : OB S} {c : Ctx} {a a' : Act} (hS : SR0 base c00 tm ob c a) (ht : tmOK tm = true) (hr : refsOK tm ob = true) (hS' : SR0 base (withD c00 [d]) (tm.set 23 .junk) ob c a') :
    ∃ L0 L1 L2, Begun base c00 (keepAll ob.length [d] c) (obs S ob) d L0 L1 L2 ∧ SR1 base (keepAll ob.length [d] c) (obs S ob) (tm.set 23 .junk) ob (keepAll ob.length [d] c) a' ∧
      a.tmps.getD 2 undef = .pointer (some ⟨L0.b, L0.o + 0 * L0.sz + 0, none⟩) ∧ a.tmps.getD 3 undef = .pointer (some ⟨L1.b, L1.o + 0 * L1.sz + 0, none⟩) ∧ a.tmps.getD 4 undef = .pointer (some ⟨L2.b, L2.o + 0 * L2.sz + 0, none⟩) := by
  simp only [tmOK, Bool.and_eq_true] at ht
  obtain ⟨⟨⟨t2, t3⟩, t4⟩, tl⟩ := ht
  obtain ⟨L0, m0, v0⟩ := tm_ptr hS t2
  obtain ⟨L1, m1, v1⟩ := tm_ptr hS t3
  obtain ⟨L2, m2, v2⟩ := tm_ptr hS t4
  have hI := keepAll_inv (d := [d]) (base := base) hS.inv rfl (placed hS hr)
  refine ⟨L0, L1, L2, ⟨⟨SOK.tab, SOK.mix, hI, gl_junk, fun id hid => ?_, SOK.np⟩, hS.ext.trans keepAll_ext, ⟨hS.fr.block, fun id l h => .inr (Nat.zero_le _), fun id L h hn => hS.fr.bnew id L (keepAll_at h) hn, hS.fr.snew⟩, rfl, keepAll_ext.m _ _ m0, keepAll_ext.m _ _ m1, keepAll_ext.m _ _ m2⟩, ?_, v0, v1, v2⟩
  · have hid : id < ob.length := by simpa [St, obs_len] using hid
    simp only [keepAll]
    split
    · exact nofun
    · rw [if_pos hid]; exact nofun
  · exact ⟨hI, Ext.refl _, Fr.refl _ _ _, StGo.refl _, rfl, fun t => (hS'.tm t).mono keepAll_ext, hS'.sz, hS'.dfr, fun _ _ _ => rfl⟩
theorem step_codeN {β : Type} {It : Iter} {C : Calls_ S} {cs : Ctx} {O : List (Option Obj)} (hU : Under S.E base cs (St O)) {x : Code} {A : Ann} {p : Nat} {tm : List (SV S.I)} {ob : OB S} {K : KT S β} {r : β} (h : xC S C It A O.length x p β tm ob K = some r) {c : Ctx} {a : Act} (hS : SR1 base cs O tm ob c a) {Q : Exit → Act → World → Prop}
    (hK : ∀ ex tm' ob' c' a', K ex tm' ob' = some r → (∀ V, ex ≠ .pan V) → SR1 base cs O tm' ob' c' a' → Q (exq ex) a' c'.w) (hp : ∀ V tm ob, K (.pan V) tm ob = none) : x.wp S.E.P Q a c.w := by
  have := xC_ok SOK (O := O) hU (low := some 0) (c0 := O.length) (mode_some _) (.inr rfl) x p β tm ob K r (fun ex s => ∃ tm' ob', K ex tm' ob' = some r ∧ Wk base cs (St O) s (fsS S (some 0) O.length tm' ob')) h (fun ex s s' hw ⟨tm', ob', h1, h2⟩ => ⟨tm', ob', h1, hw.trans h2⟩) (fun ex tm' ob' hk => ⟨tm', ob', hk, Wk.refl⟩)
  refine this c a hS Q (fun ex s1 a' c' hr hs => ?_)
  obtain ⟨tm', ob', h1, h2⟩ := hr
  have fin : (∀ V, ex ≠ .pan V) → SR base cs (St O) s1 c' a' → Q (exq ex) a' c'.w := fun hn hs => by
    obtain ⟨c'', hw, hs2⟩ := h2 _ _ hs
    rw [← hw]; exact hK _ _ _ _ _ h1 hn hs2
  cases ex with
  | pan V => rw [hp] at h1; cases h1
  | nrm => exact fin nofun hs
  | exit i => exact fin nofun hs
  | ret => exact fin nofun hs
  | goto l => exact fin nofun hs
theorem clos_tm {It : Iter} {V : Value} {tm : List (SV S.I)} {ob : OB S} {w : TF10} (h : clos It V tm ob = some w) : tmOK tm = true := by
  unfold clos at h
  split at h
  · split at h
    · rename_i hc
      simp only [Bool.and_eq_true] at hc
      exact hc.1.1.1
    · cases h
  · cases h
theorem caps_eq {cs : Ctx} {O : List (Option Obj)} {d : Deferred} {L0 L1 L2 : Loc} (h0 : ∀ id, c00.m id = none) (hB : Begun base c00 cs O d L0 L1 L2) {tm : List (SV S.I)} {ob : OB S} {c : Ctx} {a : Act} (hS : SR1 base cs O tm ob c a) (ht : tmOK tm = true) :
    a.tmps.getD 2 undef = .pointer (some ⟨L0.b, L0.o + 0 * L0.sz + 0, none⟩) ∧ a.tmps.getD 3 undef = .pointer (some ⟨L1.b, L1.o + 0 * L1.sz + 0, none⟩) ∧ a.tmps.getD 4 undef = .pointer (some ⟨L2.b, L2.o + 0 * L2.sz + 0, none⟩) := by
  simp only [tmOK, Bool.and_eq_true] at ht
  obtain ⟨⟨⟨t2, t3⟩, t4⟩, tl⟩ := ht
  have hb := hS.back h0 hB
  obtain ⟨K0, m0, v0⟩ := tm_ptr hb t2
  obtain ⟨K1, m1, v1⟩ := tm_ptr hb t3
  obtain ⟨K2, m2, v2⟩ := tm_ptr hb t4
  have e0 := hS.ext.m _ _ hB.m0
  have e1 := hS.ext.m _ _ hB.m1
  have e2 := hS.ext.m _ _ hB.m2
  rw [m0] at e0; rw [m1] at e1; rw [m2] at e2
  cases e0; cases e1; cases e2
  exact ⟨v0, v1, v2⟩
/-- A panic behind the call that is put off. -/
theorem pan_end {cs : Ctx} {O : List (Option Obj)} {d : Deferred} {L0 L1 L2 : Loc} {It : Iter} {V : Value} (hU : Under S.E base c00 (St [])) (h0 : ∀ id, c00.m id = none) (hB : Begun base c00 cs O d L0 L1 L2)
    (hd : d.target = .fn (.func 24) #[.pointer (some ⟨L0.b, L0.o + 0 * L0.sz + 0, none⟩), .pointer (some ⟨L1.b, L1.o + 0 * L1.sz + 0, none⟩), .pointer (some ⟨L2.b, L2.o + 0 * L2.sz + 0, none⟩)]) (hd' : d.args = #[])
    {tm : List (SV S.I)} {ob : OB S} {w : TF10} {vs : List (RV S.I)} (hvs : resP S Try.f10 fm10.fin w = some vs) (h : clos It V tm ob = some w) {c1 c' : Ctx} {a : Act} (hS : SR1 base cs O tm ob c1 a) (e : Ext c1 c') (f : Fr c1 (St (obs S ob)) (some 3) c') :
    bodyPostD S.E.P Try.f10 (R10 base c00 vs) (.panic (panOf V)) a c'.w := by
  obtain ⟨v0, v1, v2⟩ := caps_eq h0 hB hS (clos_tm h)
  exact leave_pan hU h0 hvs h (by rw [v0, v1, v2]; exact hd) hd' (hS.back h0 hB) e f
/-- A region that ends in `panic`. -/
theorem region_pan {cs : Ctx} {O : List (Option Obj)} {It : Iter} (hU1 : Under S.E base cs (St O)) {id : Nat} {ops : Array Oper} {tm : List (SV S.I)} {ob : OB S} {w : TF10}
    (h : xOps S noC ops 0 ops.toList tm ob [] (fun _ _ _ => none) (fun _ tm' ob' _ o _ _ => match o.op with
        | .panic x => (match valS (rho tm' x) with
          | some V => clos It V tm' ob'
          | none => none)
        | _ => none) = some w) {c : Ctx} {a : Act} (hS : SR1 base cs O tm ob c a) {Q : Exit → Act → World → Prop}
    (hQ : ∀ V tm' ob' c1 c' a1, clos It V tm' ob' = some w → SR1 base cs O tm' ob' c1 a1 → Ext c1 c' → Fr c1 (St (obs S ob')) (some 3) c' → Q (.panic (panOf V)) a1 c'.w) : (Code.region id ops false).wp S.E.P Q a c.w := by
  rcases xOps_ok SOK (base := base) (low := some 0) (c0 := O.length) (mode_some _) h with ⟨tm', ob', xs, h1, _⟩ | ⟨pre, o, post, tm', tmp, obp, xs, V', g1, g2, g3, g4, g5, g6, g7⟩
  · cases h1
  · split at g3
    · rename_i x hx
      split at g3
      · rename_i V hV
        refine wp_region_list ?_
        rw [g1]
        refine runs_list hU1 (g5 [] fun _ _ _ => rfl) hS (fun c1 a1 hS1 => wpList_step fun K hK => ?_)
        have hS2 : SR1 base cs O tmp obp c1 a1 := by
          have : fsS S (some 0) O.length tmp obp = fsS S (some 0) O.length tm' obp := by simp only [fsS, g4]
          rw [SR1, this]; exact hS1
        have hVi : ∃ t u, V = .iface t u := by
          have := hV
          unfold valS at this
          split at this
          · split at this
            · cases this; exact ⟨_, _, rfl⟩
            · cases this
          · rw [Option.map_eq_some_iff] at this; obtain ⟨v, _, rfl⟩ := this; exact ⟨_, _, rfl⟩
          · cases this
        have hp : PanAt S.E base (avs S tmp) (St (obs S obp)) o V none := PanAt.panic hx (fun c u hr => (valS_ok hV (by rw [← rho_av SOK tmp]; exact hr)).1) hVi
        rw [wanted_ok hS2.sz (fun j want d _ _ => hS2.tm d) g6]
        simp only [if_true]
        refine hp.2 c1 a1 hS2.inv gl_junk (fun x _ => evOp_reps gl_junk (fun t _ => hS2.tm t)) K Q (fun c' e f => ?_)
        exact hQ V tmp obp c1 c' a1 g3 hS2 e (f.low hS2.inv.dom fun id l _ hm => by cases hm)
      · cases g3
    · cases g3
section
variable {It : Iter} {C23 : PCall S 23} {C25 : RCall S 25} {d : Deferred} {L0 L1 L2 : Loc} {cs : Ctx} {O : List (Option Obj)} {w : TF10} {vs : List (RV S.I)}
  (hU : Under S.E base c00 (St [])) (h0 : ∀ id, c00.m id = none) (hB : Begun base c00 cs O d L0 L1 L2)
  (hd : d.target = .fn (.func 24) #[.pointer (some ⟨L0.b, L0.o + 0 * L0.sz + 0, none⟩), .pointer (some ⟨L1.b, L1.o + 0 * L1.sz + 0, none⟩), .pointer (some ⟨L2.b, L2.o + 0 * L2.sz + 0, none⟩)]) (hd' : d.args = #[])
  (hvs : resP S Try.f10 fm10.fin w = some vs)
include hU h0 hB hd hd' hvs
theorem p3_ok {tm : List (SV S.I)} {ob : OB S} (h : p3 It C23 O.length tm ob = some w) {c : Ctx} {a : Act} (hS : SR1 base cs O tm ob c a) :
    (Code.seq (.seq (cL (cL q6)) (.cond (cV (cR (cL q6))) (.region (cId (cT (cR (cL q6)))) (cOps (cT (cR (cL q6)))) false) .skip)) q7).wp S.E.P (bodyPostD S.E.P Try.f10 (R10 base c00 vs)) a c.w := by
  unfold p3 x10 at h
  refine wp_seq (wp_seq (step_codeN hB.under h hS (fun ex tm' ob' c' a' hk hn hS' => ?_) (fun V tm ob => rfl)))
  cases ex <;> simp only [nx, reduceCtorEq] at hk
  show (Code.cond _ _ _).wp S.E.P _ a' c'.w
  split at hk
  · rename_i z hz
    have hrep : Rep c' (evOp S.E.gl (avs S tm') (cV (cR (cL q6)))) (a'.eval (cV (cR (cL q6)))) := evOp_reps gl_junk (fun t _ => hS'.tm t)
    rw [rho_av SOK tm', hz] at hrep
    have hev : a'.eval (cV (cR (cL q6))) = .bool z := by
      generalize a'.eval (cV (cR (cL q6))) = u at hrep
      simp only [av] at hrep
      cases hrep; rfl
    refine wp_cond hev ?_
    split at hk
    · rename_i hzt
      rw [if_pos hzt]
      refine region_pan hB.under hk hS' (fun V tm2 ob2 c1 c2 a1 hc hS2 e f => ?_)
      exact pan_end hU h0 hB hd hd' hvs hc hS2 e f
    · rename_i hzt
      rw [if_neg hzt]
      refine wp_skip ?_
      show q7.wp S.E.P _ a' c'.w
      refine step_codeN hB.under hk hS' (fun ex tm2 ob2 c2 a2 hk2 hn2 hS2 => ?_) (fun V tm ob => rfl)
      cases ex <;> simp only [rx, reduceCtorEq] at hk2
      have hb := hS2.back h0 hB
      exact leave_ret hd hd' hU hvs hk2 hb
  · cases hk
theorem p2_ok {tm : List (SV S.I)} {ob : OB S} (h : p2 It C23 C25 O.length tm ob = some w) {c : Ctx} {a : Act} (hS : SR1 base cs O tm ob c a) :
    (Code.seq (.region (cId (cL q5)) (cOps (cL q5)) false) (.seq (.seq (cL (cL q6)) (.cond (cV (cR (cL q6))) (.region (cId (cT (cR (cL q6)))) (cOps (cT (cR (cL q6)))) false) .skip)) q7)).wp S.E.P (bodyPostD S.E.P Try.f10 (R10 base c00 vs)) a c.w := by
  refine wp_seq ?_
  unfold p2 at h
  generalize hops : cOps (cL q5) = ops at h ⊢
  split at h
  · rename_i o0 o1 o2 hl
    rcases xOps_ok SOK (base := base) (low := some 0) (c0 := O.length) (mode_some _) h with ⟨tm1, ob1, xs, h1, h2⟩ | ⟨pre, o, post, tm', tmp, obp, xs, V', g1, g2, g3, g4, g5, g6, g7⟩
    · split at h1
      · rename_i fo args ts hg0 hg1 ho1
        split at h1
        · rename_i x hfo hargs
          split at h1
          · rename_i i p off hx
            refine wp_region_list ?_
            rw [hl]
            refine runs_list (l := [o0]) hB.under (h2 [] fun _ _ _ => rfl) hS (fun c1 a1 hS1 => wpList_step fun K hK => ?_)
            have hmap : args.toList.map (rho tm1) = [.ptr i p off] := by rw [hargs]; simp [hx]
            have hw1 : wantedAV ops (avs S tm1) o1 = some true := by simp only [wantedAV, hg1]
            have h1' := h1
            rw [← hmap] at h1'
            rcases xCall_from SOK (base := base) (ts := ts) hfo (by rw [hmap]; rfl) h1' with ⟨y, ob2, x2, k1, k2⟩ | ⟨V, k1, k2⟩
            · rcases xOps_ok SOK (base := base) (low := some 0) (c0 := O.length) (mode_some _) k1 with ⟨tm3, ob3, xs3, m1, m2⟩ | ⟨pre, o, post, tm', tmp, obp, xs, V', g1, g2, g3, g4, g5, g6, g7⟩
              · have hgs := gs_of (X := S) (low := some 0) (c0 := O.length) (mode_some _) hw1 (by rw [ho1]; exact k2)
                obtain ⟨ci, hci, hst⟩ := hgs.1
                refine step_ok hB.under.tab hci hB.under.inv hB.under.gl hS1 hst K _ (fun u c2 hS2 => hK _ _ ?_) (fun V _ _ hV => absurd hV (hB.under.np V))
                have := runs_list (l := [o2]) (post := []) (Q := Exit.then ((Code.seq (.seq (cL (cL q6)) (.cond (cV (cR (cL q6))) (.region (cId (cT (cR (cL q6)))) (cOps (cT (cR (cL q6)))) false) .skip)) q7).wp S.E.P (bodyPostD S.E.P Try.f10 (R10 base c00 vs))) (bodyPostD S.E.P Try.f10 (R10 base c00 vs))) hB.under (m2 [] fun _ _ _ => rfl) hS2 (fun c3 a3 hS3 => p3_ok hU h0 hB hd hd' hvs m1 hS3)
                exact this
              · cases g3
            · rw [wanted_ok hS1.sz (fun j want d _ _ => hS1.tm d) hw1]
              simp only [if_true]
              refine (k2 o1 ho1).2 c1 a1 hS1.inv gl_junk (fun x _ => evOp_reps gl_junk (fun t _ => hS1.tm t)) K _ (fun c' e f => ?_)
              exact pan_end hU h0 hB hd hd' hvs k1 hS1 e f
          · cases h1
        · cases h1
      · cases h1
    · cases g3
  · cases h
end
theorem p1_ok {It : Iter} {C23 : PCall S 23} {C25 : RCall S 25} {w : TF10} {vs : List (RV S.I)} (hU : Under S.E base c00 (St [])) (h0 : ∀ id, c00.m id = none) (hdf : c00.dfr = []) (hvs : resP S Try.f10 fm10.fin w = some vs) {v : Str} (h : F10 It C23 C25 v = some w) {c : Ctx} {a : Act} (hS : SR0 base c00 (.s v :: List.replicate 43 (.c undef)) [] c a) :
    (Code.seq (cL q0) (.seq (cL q1) (.seq (cL q2) (.seq (cL q3) (.seq (.region (cId (cL q4)) (cOps (cL q4)) false) (.seq (.region (cId (cL q5)) (cOps (cL q5)) false) (.seq (.seq (cL (cL q6)) (.cond (cV (cR (cL q6))) (.region (cId (cT (cR (cL q6)))) (cOps (cT (cR (cL q6)))) false) .skip)) q7))))))).wp S.E.P (bodyPostD S.E.P Try.f10 (R10 base c00 vs)) a c.w := by
  unfold F10 x10 at h
  refine wp_seq (step_code hU h hS (fun ex tm1 ob1 c1 a1 k1 _ S1 => ?_) (fun V tm ob => rfl))
  cases ex <;> simp only [nx, reduceCtorEq] at k1
  show (Code.seq _ _).wp S.E.P _ a1 c1.w
  unfold p1 x10 at k1
  refine wp_seq (step_code hU k1 S1 (fun ex tm2 ob2 c2 a2 k2 _ S2 => ?_) (fun V tm ob => rfl))
  cases ex <;> simp only [nx, reduceCtorEq] at k2
  show (Code.seq _ _).wp S.E.P _ a2 c2.w
  refine wp_seq (step_code hU k2 S2 (fun ex tm3 ob3 c3 a3 k3 _ S3 => ?_) (fun V tm ob => rfl))
  cases ex <;> simp only [reduceCtorEq] at k3
  · show (Code.seq _ _).wp S.E.P _ a3 c3.w
    refine wp_seq (step_code hU k3 S3 (fun ex tm4 ob4 c4 a4 k4 _ S4 => ?_) (fun V tm ob => rfl))
    cases ex <;> simp only [nx, reduceCtorEq] at k4
    show (Code.seq _ _).wp S.E.P _ a4 c4.w
    split at k4
    · rename_i hc
      simp only [Bool.and_eq_true] at hc
      obtain ⟨ht, hr⟩ := hc
      have hl : tm4.length = 44 := by
        have := ht
        simp only [tmOK, Bool.and_eq_true] at this
        exact Nat.eq_of_beq_eq_true this.2
      refine wp_seq (defer_ok S4 (S4.dfr.trans hdf) hl (fun a5 d e1 e2 e3 e4 S5 => ?_))
      show (Code.seq _ _).wp S.E.P _ a5 c4.w
      obtain ⟨L0, L1, L2, hB, S6, v0, v1, v2⟩ := begun hU h0 S4 ht hr S5
      rw [v0, v1, v2] at e2
      have k5 : p2 It C23 C25 (obs S ob4).length (tm4.set 23 .junk) ob4 = some w := by rw [obs_len]; exact k4
      have := p2_ok hU h0 hB e2 e3 hvs k5 (c := keepAll ob4.length [d] c4) S6
      exact this
    · cases k4
  · show Leaves S.E.P Try.f10 a3.tmps _ a3.defers .returning c3.w
    rw [S3.dfr.trans hdf]
    obtain ⟨v, e1, e2⟩ := fin_end hU k3 hvs S3
    exact ⟨v, e1, e2⟩
end
theorem nt10 : Try.f10.ntmps = 44 := by kernel_rfl
theorem F10_ok {It : Iter} {C23 : PCall S 23} {C25 : RCall S 25} {w : TF10} {vs : List (RV S.I)} {v : Str} (h : F10 It C23 C25 v = some w) (hvs : resP S Try.f10 fm10.fin w = some vs) : PureOK S.E 10 [.v (.string (mkS v))] (rsAV S vs) := by
  intro base σ
  refine ⟨StGo.importAV _ _, fun _ id hid => importAV_keeps _ _ hid, ⟨Try.f10, Try.func10, by rw [body10]; rfl, names _ _ Try.func10⟩, fun c us hI hG hus => ⟨fun id hid _ => importAV_keeps _ _ hid, ?_⟩⟩
  have hus' : Reps c.none [.v (.string (mkS v))] us := ⟨hus.1, fun j x u h1 h2 => moveCells (c := c) (c' := c.none) rfl rfl (hus.2 j x u h1 h2) (by
    have : x ∈ [AV.v (.string (mkS v))] := List.mem_of_getElem? h1
    rw [List.mem_singleton] at this; subst this; rfl)⟩
  have hU : Under S.E base c.none nilStore := ⟨SOK.tab, SOK.mix, none_inv hI, gl_junk, fun id hid => by simp [nilStore] at hid, SOK.np⟩
  have hst := start_SR (none_inv hI) rfl hus' Try.f10.ntmps
  rw [nt10] at hst
  refine (calls_of_wp_defers (P := S.E.P) Try.func10 body10 (R := R10 base c.none vs) ?_).mono (fun e w' h => .inl (pure_end hI (res_ok SOK hvs).1 h))
  rw [nt10]
  refine p1_ok (c00 := c.none) (c := c.none) hU (fun id => rfl) rfl hvs h ?_
  exact hst
theorem h10 (It : Iter) (C23 : PCall S 23) (C25 : RCall S 25) : Sound S fm10 10 Try.f10 (fun v => (F10 It C23 C25 v).map Pn.ok) := sound_hand SOK fun v r h ys hb => by
  replace h := Option.map_eq_some_iff.1 h
  obtain ⟨w, hw, rfl⟩ := h
  cases hb
  intro vs hvs
  exact F10_ok hw hvs
noncomputable def G10 (It : Iter) : Snd S fm10 10 Try.f10 := ⟨_, h10 It (Snd.row SOK (G23 It) res23) (SndR.row SOK (G25 It) pre25 post25)⟩
/-! 80 slices.Equal[[]uint32,uint32] -/
def fm80 : Fm := ⟨[.lf (.lf (.l 106)), .lf (.lf (.l 106))], ⟨[], [(58, ⟨⟨spr 26 [(0, .lf (.lf (.l 106))), (1, .lf (.lf (.l 106))), (12, .lf (.lf (.i .i64))), (13, .lf (.lf (.i .i64)))], []⟩, some (0, ⟨spr 26 [], []⟩), true⟩)], []⟩, ⟨spr 26 [(4, .lf (.lf (.b)))], []⟩⟩
theorem res80 : ∀ w, (resP S Try.f80 fm80.fin w).isSome = true := fun _ => by kernel_rfl
noncomputable def G80 (It : Iter) : Snd S fm80 80 Try.f80 := Snd.run SOK (fun _ => .none) It fm80 80 Try.func80 (names _ _ Try.func80)
/-! 61 sibyl/ratio.Same -/
def fm61 : Fm := ⟨[.st 25, .st 25], ⟨[(3, (⟨spr 24 [(4, .lf (.lf (.b)))], []⟩, false))], [], []⟩, ⟨spr 24 [(4, .lf (.lf (.b)))], []⟩⟩
theorem res61 : ∀ w, (resP S Try.f61 fm61.fin w).isSome = true := fun _ => by kernel_rfl
noncomputable def G61 (It : Iter) : Snd S fm61 61 Try.f61 := Snd.run SOK (fun f => match f with
    | 80 => .pure (Snd.row SOK (G80 It) res80)
    | _ => .none) It fm61 61 Try.func61 (names _ _ Try.func61)
/-! 36 sibyl/datum.shallow -/
def fm36 : Fm := ⟨[.st 28, .st 28], ⟨[(3, (⟨spr 40 [(4, .lf (.lf (.b)))], []⟩, false))], [], []⟩, ⟨spr 40 [(4, .lf (.lf (.b)))], []⟩⟩
theorem res36 : ∀ w, (resP S Try.f36 fm36.fin w).isSome = true := fun _ => by kernel_rfl
noncomputable def G36 (It : Iter) : Snd S fm36 36 Try.f36 := Snd.run SOK (fun f => match f with
    | 61 => .pure (Snd.row SOK (G61 It) res61)
    | _ => .none) It fm36 36 Try.func36 (names _ _ Try.func36)
/-! 74 sibyl/ratio.natural -/
def fm74 : Fm := ⟨[.lf (.lf (.l 106))], ⟨[(3, (⟨spr 20 [(2, .lf (.lf (.b)))], []⟩, false))], [], []⟩, ⟨spr 20 [(2, .lf (.lf (.b)))], []⟩⟩
theorem res74 : ∀ w, (resP S Try.f74 fm74.fin w).isSome = true := fun _ => by kernel_rfl
noncomputable def G74 (It : Iter) : Snd S fm74 74 Try.f74 := Snd.run SOK (fun _ => .none) It fm74 74 Try.func74 (names _ _ Try.func74)
/-! 54 sibyl/ratio.Form -/
def fm54 : Fm := ⟨[.st 25], ⟨[(6, (⟨spr 35 [(1, .lf (.lf (.ptr 0 0))), (28, .lf (.lf (.b)))], [.box 3 false [.lf (.b), .lf (.l 106), .lf (.l 106)]]⟩, false))], [], []⟩, ⟨spr 35 [(2, .lf (.lf (.b)))], []⟩⟩
theorem res54 : ∀ w, (resP S Try.f54 fm54.fin w).isSome = true := fun _ => by kernel_rfl
noncomputable def G54 (It : Iter) : Snd S fm54 54 Try.f54 := Snd.run SOK (fun f => match f with
    | 71 => .pure (Snd.row SOK (G71 It) res71)
    | 74 => .pure (Snd.row SOK (G74 It) res74)
    | 75 => .pure (Snd.row SOK (G75 It) res75)
    | _ => .none) It fm54 54 Try.func54 (names _ _ Try.func54)
/-! 55 sibyl/scan.Name -/
def fm55 : Fm := ⟨[.lf (.lf (.s))], ⟨[(3, (⟨spr 10 [(2, .lf (.lf (.b)))], []⟩, false))], [], []⟩, ⟨spr 10 [(2, .lf (.lf (.b)))], []⟩⟩
theorem res55 : ∀ w, (resP S Try.f55 fm55.fin w).isSome = true := fun _ => by kernel_rfl
noncomputable def G55 (It : Iter) : Snd S fm55 55 Try.f55 := Snd.run SOK (fun f => match f with
    | 76 => .pure (Snd.row SOK (G76 It) res76)
    | _ => .none) It fm55 55 Try.func55 (names _ _ Try.func55)
/-! 56 sibyl/datum.atomic -/
def fm56 : Fm := ⟨[.st 28], ⟨[(3, (⟨spr 11 [(2, .lf (.lf (.b)))], []⟩, false))], [], []⟩, ⟨spr 11 [(2, .lf (.lf (.b)))], []⟩⟩
theorem res56 : ∀ w, (resP S Try.f56 fm56.fin w).isSome = true := fun _ => by kernel_rfl
noncomputable def G56 (It : Iter) : Snd S fm56 56 Try.f56 := Snd.run SOK (fun _ => .none) It fm56 56 Try.func56 (names _ _ Try.func56)
/-! 34 sibyl/datum.good -/
def fm34 : Fm := ⟨[.st 28, .lf (.lf (.i .i64))], ⟨[(7, (⟨spr 88 [(2, .lf (.lf (.ptr 0 0))), (5, .lf (.lf (.ptr 1 0)))], [.box 8 false [.lf (.i .i64), .lf (.b), .lf (.l 106), .lf (.l 106), .lf (.b), .lf (.s), .lf (.l 28), .lf (.b)], .box 8 false [.lf (.i .i64), .lf (.b), .lf (.l 106), .lf (.l 106), .lf (.b), .lf (.s), .lf (.l 28), .lf (.b)]]⟩, true)), (60410, (⟨spr 88 [(1, .lf (.lf (.i .i64))), (2, .lf (.lf (.ptr 0 0))), (5, .lf (.lf (.ptr 1 0))), (64, .lf (.lf (.b)))], [.box 8 false [.lf (.i .i64), .lf (.b), .lf (.l 106), .lf (.l 106), .lf (.b), .lf (.s), .lf (.l 28), .lf (.b)], .box 8 false [.lf (.i .i64), .lf (.b), .lf (.c (.slice none 0 0)), .lf (.c (.slice none 0 0)), .lf (.b), .lf (.s), .lf (.c (.slice none 0 0)), .lf (.b)]]⟩, false))], [(483290, ⟨⟨spr 88 [(1, .lf (.lf (.i .i64))), (2, .lf (.lf (.ptr 0 0))), (5, .lf (.lf (.ptr 1 0))), (66, .lf (.lf (.l 28))), (67, .lf (.lf (.i .i64))), (68, .lf (.lf (.i .i64)))], [.box 8 false [.lf (.i .i64), .lf (.b), .lf (.l 106), .lf (.l 106), .lf (.b), .lf (.s), .lf (.l 28), .lf (.b)], .box 8 false [.lf (.i .i64), .lf (.b), .lf (.c (.slice none 0 0)), .lf (.c (.slice none 0 0)), .lf (.b), .lf (.s), .lf (.c (.slice none 0 0)), .lf (.b)]]⟩, some (1, ⟨spr 88 [(2, .lf (.lf (.ptr 0 0))), (5, .lf (.lf (.ptr 1 0)))], [.box 8 false [.lf (.i .i64), .lf (.b), .lf (.l 106), .lf (.l 106), .lf (.b), .lf (.s), .lf (.l 28), .lf (.b)], .box 8 false [.lf (.i .i64), .lf (.b), .lf (.c (.slice none 0 0)), .lf (.c (.slice none 0 0)), .lf (.b), .lf (.s), .lf (.c (.slice none 0 0)), .lf (.b)]]⟩), true⟩)], []⟩, ⟨spr 88 [(4, .lf (.lf (.b)))], []⟩⟩
theorem res34 : ∀ w, (resP S Try.f34 fm34.fin w).isSome = true := fun _ => by kernel_rfl
noncomputable def Gn34 (It : Iter) : Nat → Snd S fm34 34 Try.f34
  | 0 => Snd.none _ _
  | n + 1 => Snd.run SOK (fun f => match f with
    | 34 => .pure (Snd.row SOK (Gn34 It n) res34)
    | 36 => .pure (Snd.row SOK (G36 It) res36)
    | 54 => .pure (Snd.row SOK (G54 It) res54)
    | 55 => .pure (Snd.row SOK (G55 It) res55)
    | 56 => .pure (Snd.row SOK (G56 It) res56)
    | _ => .none) It fm34 34 Try.func34 (names _ _ Try.func34)
noncomputable def G34 (It : Iter) : Snd S fm34 34 Try.f34 := Snd.fuel (fun v => encTDatum_dep v.1) (Gn34 It)
/-! 16 sibyl/datum.Good -/
def fm16 : Fm := ⟨[.st 28], ⟨[], [], []⟩, ⟨spr 5 [(2, .lf (.lf (.b)))], []⟩⟩
theorem res16 : ∀ w, (resP S Try.f16 fm16.fin w).isSome = true := fun _ => by kernel_rfl
noncomputable def G16 (It : Iter) : Snd S fm16 16 Try.f16 := Snd.run SOK (fun f => match f with
    | 34 => .pure (Snd.row SOK (G34 It) res34)
    | _ => .none) It fm16 16 Try.func16 (names _ _ Try.func16)
/-! 70 sibyl/nats.Digits -/
def fm70 : Fm := ⟨[.lf (.lf (.l 106))], ⟨[], [(124, ⟨⟨spr 70 [(0, .lf (.lf (.l 106))), (3, .lf (.lf (.row 0 5)))], [.row 5 false false]⟩, some (0, ⟨spr 70 [(3, .lf (.lf (.row 0 5)))], [.row 5 false false]⟩), false⟩), (252, ⟨⟨spr 70 [(3, .lf (.lf (.row 0 5)))], [.row 5 false true]⟩, some (4, ⟨spr 70 [(3, .lf (.lf (.row 0 5)))], [.row 5 false false]⟩), false⟩), (1018, ⟨⟨spr 70 [(3, .lf (.lf (.row 0 5))), (5, .lf (.lf (.i .i64))), (6, .lf (.lf (.i .i64)))], [.row 5 false false]⟩, some (6, ⟨spr 70 [(3, .lf (.lf (.row 0 5)))], [.row 5 false false]⟩), false⟩), (15918, ⟨⟨spr 70 [(0, .lf (.lf (.l 106))), (3, .lf (.lf (.row 0 5))), (4, .lf (.lf (.i .u32))), (20, .lf (.lf (.i .i64)))], [.row 5 false false]⟩, some (2, ⟨spr 70 [(0, .lf (.lf (.l 106))), (3, .lf (.lf (.row 0 5)))], [.row 5 false false]⟩), false⟩)], []⟩, ⟨spr 70 [(2, .lf (.lf (.s)))], []⟩⟩
theorem res70 : ∀ w, (resP S Try.f70 fm70.fin w).isSome = true := fun _ => by kernel_rfl
noncomputable def G70 (It : Iter) : Snd S fm70 70 Try.f70 := Snd.run SOK (fun f => match f with
    | 92 => .pure (Snd.row SOK (G92 It) res92)
    | 93 => .pure (Snd.row SOK (G93 It) res93)
    | _ => .none) It fm70 70 Try.func70 (names _ _ Try.func70)
/-! 49 sibyl/ratio.Text -/
def fm49 : Fm := ⟨[.st 25], ⟨[(15, (⟨spr 26 [(1, .lf (.lf (.ptr 0 0))), (4, .lf (.lf (.s)))], [.box 3 false [.lf (.b), .lf (.l 106), .lf (.l 106)]]⟩, false)), (31, (⟨spr 26 [(4, .lf (.lf (.s)))], []⟩, false))], [], []⟩, ⟨spr 26 [(2, .lf (.lf (.s))), (3, .lf (.lf (.i .i64)))], []⟩⟩
theorem res49 : ∀ w, (resP S Try.f49 fm49.fin w).isSome = true := fun _ => by kernel_rfl
noncomputable def G49 (It : Iter) : Snd S fm49 49 Try.f49 := Snd.run SOK (fun f => match f with
    | 54 => .pure (Snd.row SOK (G54 It) res54)
    | 70 => .pure (Snd.row SOK (G70 It) res70)
    | 71 => .pure (Snd.row SOK (G71 It) res71)
    | _ => .none) It fm49 49 Try.func49 (names _ _ Try.func49)
noncomputable def G72 (It : Iter) : SndR S fm72 72 Try.f72 := ⟨_, h72⟩
/-! 50 (*strings.Builder).WriteString -/
def fm50 : Frm := ⟨⟨[.lf (.lf (.tptr 0 66)), .lf (.lf (.s))], [.box 2 false [.lf (.slf 0), .lf (.trow 1 5)], .row 5 false false]⟩, ⟨[], [], []⟩, ⟨spr 19 [(4, .lf (.lf (.i .i64))), (5, .lf (.lf (.c (.nilIface))))], [.box 2 false [.lf (.slf 0), .lf (.trow 2 5)], .dead, .row 5 false false]⟩⟩
theorem pre50 : ∀ v, (preR S fm50 v).isSome = true := fun _ => by kernel_rfl
theorem post50 : ∀ v w, (postR S fm50 Try.f50 v w).isSome = true := fun _ _ => by kernel_rfl
noncomputable def G50 (It : Iter) : SndR S fm50 50 Try.f50 := SndR.run SOK (fun f => match f with
    | 72 => .ref (SndR.row SOK (G72 It) pre72 post72)
    | _ => .none) It fm50 50 Try.func50 (names _ _ Try.func50)
/-! 51 (*strings.Builder).WriteByte -/
def fm51 : Frm := ⟨⟨[.lf (.lf (.tptr 0 66)), .lf (.lf (.i .u8))], [.box 2 false [.lf (.slf 0), .lf (.trow 1 5)], .row 5 false false]⟩, ⟨[], [], []⟩, ⟨spr 17 [(4, .lf (.lf (.c (.nilIface))))], [.box 2 false [.lf (.slf 0), .lf (.trow 2 5)], .dead, .row 5 false false]⟩⟩
theorem pre51 : ∀ v, (preR S fm51 v).isSome = true := fun _ => by kernel_rfl
theorem post51 : ∀ v w, (postR S fm51 Try.f51 v w).isSome = true := fun _ _ => by kernel_rfl
noncomputable def G51 (It : Iter) : SndR S fm51 51 Try.f51 := SndR.run SOK (fun f => match f with
    | 72 => .ref (SndR.row SOK (G72 It) pre72 post72)
    | _ => .none) It fm51 51 Try.func51 (names _ _ Try.func51)
noncomputable def G52 (It : Iter) : SndR S fm52 52 Try.f52 := ⟨_, h52⟩
/-! 30 sibyl/datum.write -/
def fm30 : Frm := ⟨⟨[.lf (.lf (.tptr 0 66)), .st 28], [.box 2 false [.lf (.slf 0), .lf (.trow 1 5)], .row 5 false false]⟩, ⟨[(3, (⟨spr 74 [(0, .lf (.lf (.tptr 0 66)))], [.box 2 false [.lf (.slf 0), .lf (.trow 2 5)], .dead, .row 5 false false]⟩, true)), (1769113, (⟨spr 74 [(0, .lf (.lf (.tptr 0 66))), (3, .lf (.lf (.ptr 2 0))), (8, .lf (.lf (.ptr 3 0))), (14, .lf (.lf (.l 28))), (15, .lf (.lf (.i .i64))), (16, .lf (.lf (.i .i64)))], [.box 2 false [.lf (.slf 0), .lf (.trow 4 5)], .dead, .box 8 false [.lf (.i .i64), .lf (.b), .lf (.l 106), .lf (.l 106), .lf (.b), .lf (.s), .lf (.l 28), .lf (.b)], .box 8 false [.lf (.i .i64), .lf (.b), .lf (.l 106), .lf (.l 106), .lf (.b), .lf (.s), .lf (.l 28), .lf (.b)], .row 5 false false]⟩, false)), (28305811, (⟨spr 74 [(0, .lf (.lf (.tptr 0 66))), (3, .lf (.lf (.ptr 2 0))), (8, .lf (.lf (.ptr 3 0))), (14, .lf (.lf (.l 28))), (15, .lf (.lf (.i .i64))), (16, .lf (.lf (.i .i64))), (26, .lf (.lf (.b)))], [.box 2 false [.lf (.slf 0), .lf (.trow 4 5)], .dead, .box 8 false [.lf (.i .i64), .lf (.b), .lf (.l 106), .lf (.l 106), .lf (.b), .lf (.s), .lf (.l 28), .lf (.b)], .box 8 false [.lf (.i .i64), .lf (.b), .lf (.l 106), .lf (.l 106), .lf (.b), .lf (.s), .lf (.l 28), .lf (.b)], .row 5 false false]⟩, false))], [(27642, ⟨⟨spr 74 [(0, .lf (.lf (.tptr 0 66))), (3, .lf (.lf (.ptr 2 0))), (14, .lf (.lf (.l 28))), (15, .lf (.lf (.i .i64))), (16, .lf (.lf (.i .i64)))], [.box 2 false [.lf (.slf 0), .lf (.trow 3 5)], .dead, .box 8 false [.lf (.i .i64), .lf (.b), .lf (.l 106), .lf (.l 106), .lf (.b), .lf (.s), .lf (.l 28), .lf (.b)], .row 5 false false]⟩, some (1, ⟨spr 74 [(0, .lf (.lf (.tptr 0 66)))], [.box 2 false [.lf (.slf 0), .lf (.trow 2 5)], .dead, .row 5 false false]⟩), true⟩)], []⟩, ⟨spr 74 [(4, .lf (.lf (.b)))], [.box 2 false [.lf (.slf 0), .lf (.trow 2 5)], .dead, .row 5 false false]⟩⟩
theorem pre30 : ∀ v, (preR S fm30 v).isSome = true := fun _ => by kernel_rfl
theorem post30 : ∀ v w, (postR S fm30 Try.f30 v w).isSome = true := fun _ _ => by kernel_rfl
noncomputable def Gn30 (It : Iter) : Nat → SndR S fm30 30 Try.f30
  | 0 => SndR.none _ _
  | n + 1 => SndR.run SOK (fun f => match f with
    | 30 => .ref (SndR.row SOK (Gn30 It n) pre30 post30)
    | 49 => .pure (Snd.row SOK (G49 It) res49)
    | 50 => .ref (SndR.row SOK (G50 It) pre50 post50)
    | 51 => .ref (SndR.row SOK (G51 It) pre51 post51)
    | 52 => .ref (SndR.row SOK (G52 It) pre52 post52)
    | _ => .none) It fm30 30 Try.func30 (names _ _ Try.func30)
noncomputable def G30 (It : Iter) : SndR S fm30 30 Try.f30 := SndR.fuel (fun v => encTDatum_dep v.1) (Gn30 It)
noncomputable def G31 (It : Iter) : SndR S fm31 31 Try.f31 := ⟨_, h31⟩
/-! 13 sibyl/datum.Write -/
def fm13 : Fm := ⟨[.st 28], ⟨[(7, (⟨spr 12 [(1, .lf (.lf (.ptr 0 0))), (4, .lf (.lf (.tptr 1 66)))], [.box 8 false [.lf (.i .i64), .lf (.b), .lf (.l 106), .lf (.l 106), .lf (.b), .lf (.s), .lf (.l 28), .lf (.b)], .box 2 false [.lf (.slf 1), .lf (.trow 2 5)], .row 5 false false]⟩, false))], [], []⟩, ⟨spr 12 [(2, .lf (.lf (.s))), (3, .lf (.lf (.i .i64)))], []⟩⟩
theorem res13 : ∀ w, (resP S Try.f13 fm13.fin w).isSome = true := fun _ => by kernel_rfl
noncomputable def G13 (It : Iter) : Snd S fm13 13 Try.f13 := Snd.run SOK (fun f => match f with
    | 16 => .pure (Snd.row SOK (G16 It) res16)
    | 30 => .ref (SndR.row SOK (G30 It) pre30 post30)
    | 31 => .ref (SndR.row SOK (G31 It) pre31 post31)
    | _ => .none) It fm13 13 Try.func13 (names _ _ Try.func13)
/-! 32 sibyl/sibylref02.Copy -/
def fm32 : Fm := ⟨[.st 25], ⟨[], [], []⟩, ⟨spr 14 [(2, .lf (.lf (.ptr 0 0)))], [.box 3 false [.lf (.b), .lf (.row 1 106), .lf (.row 2 106)], .row 106 false false, .row 106 false false]⟩⟩
theorem res32 : ∀ w, (resP S Try.f32 fm32.fin w).isSome = true := fun _ => by kernel_rfl
noncomputable def G32 (It : Iter) : Snd S fm32 32 Try.f32 := Snd.run SOK (fun _ => .none) It fm32 32 Try.func32 (names _ _ Try.func32)
/-! 14 sibyl/sibylref05.Copy -/
def fm14 : Fm := ⟨[.st 28], ⟨[], [(122, ⟨⟨spr 28 [(1, .lf (.lf (.ptr 0 0))), (2, .lf (.lf (.ptr 1 0))), (3, .lf (.lf (.row 2 28))), (4, .lf (.lf (.i .i64)))], [.box 8 false [.lf (.i .i64), .lf (.b), .lf (.row 3 106), .lf (.row 4 106), .lf (.b), .lf (.s), .lf (.l 28), .lf (.b)], .box 8 false [.lf (.i .i64), .lf (.b), .lf (.c (.slice none 0 0)), .lf (.c (.slice none 0 0)), .lf (.b), .lf (.s), .lf (.c (.slice none 0 0)), .lf (.b)], .row 28 false false, .row 106 false false, .row 106 false false]⟩, some (0, ⟨spr 28 [(1, .lf (.lf (.ptr 0 0))), (2, .lf (.lf (.ptr 1 0))), (3, .lf (.lf (.row 2 28)))], [.box 8 false [.lf (.i .i64), .lf (.b), .lf (.row 3 106), .lf (.row 4 106), .lf (.b), .lf (.s), .lf (.l 28), .lf (.b)], .box 8 false [.lf (.i .i64), .lf (.b), .lf (.c (.slice none 0 0)), .lf (.c (.slice none 0 0)), .lf (.b), .lf (.s), .lf (.c (.slice none 0 0)), .lf (.b)], .row 28 false false, .row 106 false false, .row 106 false false]⟩), false⟩)], []⟩, ⟨spr 28 [(2, .lf (.lf (.ptr 0 0)))], [.box 8 false [.lf (.i .i64), .lf (.b), .lf (.row 1 106), .lf (.row 2 106), .lf (.b), .lf (.s), .lf (.row 3 28), .lf (.b)], .row 106 false false, .row 106 false false, .row 28 false false]⟩⟩
theorem res14 : ∀ w, (resP S Try.f14 fm14.fin w).isSome = true := fun _ => by kernel_rfl
noncomputable def Gn14 (It : Iter) : Nat → Snd S fm14 14 Try.f14
  | 0 => Snd.none _ _
  | n + 1 => Snd.run SOK (fun f => match f with
    | 14 => .pure (Snd.row SOK (Gn14 It n) res14)
    | 32 => .pure (Snd.row SOK (G32 It) res32)
    | _ => .none) It fm14 14 Try.func14 (names _ _ Try.func14)
noncomputable def G14 (It : Iter) : Snd S fm14 14 Try.f14 := Snd.fuel (fun v => encTDatum_dep v) (Gn14 It)
/-! 18 sibyl/datum.Same -/
def fm18 : Fm := ⟨[.st 28, .st 28], ⟨[(6, (⟨spr 36 [(2, .lf (.lf (.ptr 0 0))), (3, .lf (.lf (.ptr 1 0))), (16, .lf (.lf (.b)))], [.box 8 false [.lf (.i .i64), .lf (.b), .lf (.l 106), .lf (.l 106), .lf (.b), .lf (.s), .lf (.l 28), .lf (.b)], .box 8 false [.lf (.i .i64), .lf (.b), .lf (.l 106), .lf (.l 106), .lf (.b), .lf (.s), .lf (.l 28), .lf (.b)]]⟩, false))], [(58, ⟨⟨spr 36 [(2, .lf (.lf (.ptr 0 0))), (3, .lf (.lf (.ptr 1 0))), (19, .lf (.lf (.i .i64))), (20, .lf (.lf (.i .i64)))], [.box 8 false [.lf (.i .i64), .lf (.b), .lf (.l 106), .lf (.l 106), .lf (.b), .lf (.s), .lf (.l 28), .lf (.b)], .box 8 false [.lf (.i .i64), .lf (.b), .lf (.l 106), .lf (.l 106), .lf (.b), .lf (.s), .lf (.l 28), .lf (.b)]]⟩, some (0, ⟨spr 36 [], []⟩), true⟩)], []⟩, ⟨spr 36 [(4, .lf (.lf (.b)))], []⟩⟩
theorem res18 : ∀ w, (resP S Try.f18 fm18.fin w).isSome = true := fun _ => by kernel_rfl
noncomputable def Gn18 (It : Iter) : Nat → Snd S fm18 18 Try.f18
  | 0 => Snd.none _ _
  | n + 1 => Snd.run SOK (fun f => match f with
    | 18 => .pure (Snd.row SOK (Gn18 It n) res18)
    | 36 => .pure (Snd.row SOK (G36 It) res36)
    | _ => .none) It fm18 18 Try.func18 (names _ _ Try.func18)
noncomputable def G18 (It : Iter) : Snd S fm18 18 Try.f18 := Snd.fuel (fun v => encTDatum_dep v.1) (Gn18 It)
/-! 19 sibyl/datum.Size -/
def fm19 : Fm := ⟨[.st 28], ⟨[], [(58, ⟨⟨spr 19 [(3, .lf (.lf (.i .i64))), (7, .lf (.lf (.l 28))), (8, .lf (.lf (.i .i64))), (9, .lf (.lf (.i .i64)))], []⟩, some (0, ⟨spr 19 [(3, .lf (.lf (.i .i64)))], []⟩), false⟩)], []⟩, ⟨spr 19 [(2, .lf (.lf (.i .i64)))], []⟩⟩
theorem res19 : ∀ w, (resP S Try.f19 fm19.fin w).isSome = true := fun _ => by kernel_rfl
noncomputable def Gn19 (It : Iter) : Nat → Snd S fm19 19 Try.f19
  | 0 => Snd.none _ _
  | n + 1 => Snd.run SOK (fun f => match f with
    | 19 => .pure (Snd.row SOK (Gn19 It n) res19)
    | _ => .none) It fm19 19 Try.func19 (names _ _ Try.func19)
noncomputable def G19 (It : Iter) : Snd S fm19 19 Try.f19 := Snd.fuel (fun v => encTDatum_dep v) (Gn19 It)
/-! 21 sibyl/datum.Pairs -/
def fm21 : Fm := ⟨[.st 28], ⟨[(15, (⟨spr 33 [(1, .lf (.lf (.ptr 0 0))), (3, .lf (.lf (.i .i64)))], [.box 8 false [.lf (.i .i64), .lf (.b), .lf (.l 106), .lf (.l 106), .lf (.b), .lf (.s), .lf (.l 28), .lf (.b)]]⟩, false)), (30, (⟨spr 33 [(1, .lf (.lf (.ptr 0 0))), (3, .lf (.lf (.i .i64))), (17, .lf (.lf (.b)))], [.box 8 false [.lf (.i .i64), .lf (.b), .lf (.l 106), .lf (.l 106), .lf (.b), .lf (.s), .lf (.l 28), .lf (.b)]]⟩, false))], [(250, ⟨⟨spr 33 [(3, .lf (.lf (.i .i64))), (21, .lf (.lf (.l 28))), (22, .lf (.lf (.i .i64))), (23, .lf (.lf (.i .i64)))], []⟩, some (0, ⟨spr 33 [(3, .lf (.lf (.i .i64)))], []⟩), false⟩)], []⟩, ⟨spr 33 [(2, .lf (.lf (.i .i64)))], []⟩⟩
theorem res21 : ∀ w, (resP S Try.f21 fm21.fin w).isSome = true := fun _ => by kernel_rfl
noncomputable def Gn21 (It : Iter) : Nat → Snd S fm21 21 Try.f21
  | 0 => Snd.none _ _
  | n + 1 => Snd.run SOK (fun f => match f with
    | 21 => .pure (Snd.row SOK (Gn21 It n) res21)
    | _ => .none) It fm21 21 Try.func21 (names _ _ Try.func21)
noncomputable def G21 (It : Iter) : Snd S fm21 21 Try.f21 := Snd.fuel (fun v => encTDatum_dep v) (Gn21 It)
/-! 9 sibyl/sibyllaw05.wakes -/
def fm9 : Fm := ⟨[], ⟨[(30, (⟨spr 81 [(1, .lf (.lf (.ptr 0 0))), (43, .lf (.lf (.b)))], [.box 8 false [.lf (.i .i64), .lf (.b), .lf (.l 106), .lf (.l 106), .lf (.b), .lf (.s), .lf (.row 1 28), .lf (.b)], .row 28 false false]⟩, false)), (63, (⟨spr 81 [(0, .lf (.lf (.b)))], []⟩, false))], [], []⟩, ⟨spr 81 [(0, .lf (.lf (.b)))], []⟩⟩
theorem res9 : ∀ w, (resP S Try.f9 fm9.fin w).isSome = true := fun _ => by kernel_rfl
noncomputable def G9 (It : Iter) : Snd S fm9 9 Try.f9 := Snd.run SOK (fun f => match f with
    | 10 => .pure (Snd.row SOK (G10 It) res10)
    | 13 => .pure (Snd.row SOK (G13 It) res13)
    | 14 => .pure (Snd.row SOK (G14 It) res14)
    | 16 => .pure (Snd.row SOK (G16 It) res16)
    | 18 => .pure (Snd.row SOK (G18 It) res18)
    | 19 => .pure (Snd.row SOK (G19 It) res19)
    | 21 => .pure (Snd.row SOK (G21 It) res21)
    | _ => .none) It fm9 9 Try.func9 (names _ _ Try.func9)
/-! 48 sibyl/sibylref01.Same -/
def fm48 : Fm := ⟨[.lf (.lf (.l 106)), .lf (.lf (.l 106))], ⟨[], [(58, ⟨⟨spr 26 [(0, .lf (.lf (.l 106))), (1, .lf (.lf (.l 106))), (5, .lf (.lf (.i .i64)))], []⟩, some (0, ⟨spr 26 [], []⟩), true⟩)], []⟩, ⟨spr 26 [(4, .lf (.lf (.b)))], []⟩⟩
theorem res48 : ∀ w, (resP S Try.f48 fm48.fin w).isSome = true := fun _ => by kernel_rfl
noncomputable def G48 (It : Iter) : Snd S fm48 48 Try.f48 := Snd.run SOK (fun _ => .none) It fm48 48 Try.func48 (names _ _ Try.func48)
/-! 28 sibyl/sibylref02.Same -/
def fm28 : Fm := ⟨[.st 25, .st 25], ⟨[(3, (⟨spr 24 [(4, .lf (.lf (.b)))], []⟩, false))], [], []⟩, ⟨spr 24 [(4, .lf (.lf (.b)))], []⟩⟩
theorem res28 : ∀ w, (resP S Try.f28 fm28.fin w).isSome = true := fun _ => by kernel_rfl
noncomputable def G28 (It : Iter) : Snd S fm28 28 Try.f28 := Snd.run SOK (fun f => match f with
    | 48 => .pure (Snd.row SOK (G48 It) res48)
    | _ => .none) It fm28 28 Try.func28 (names _ _ Try.func28)
/-! 12 sibyl/sibylref05.Same -/
def fm12 : Fm := ⟨[.st 28, .st 28], ⟨[(6, (⟨spr 44 [(2, .lf (.lf (.ptr 0 0))), (3, .lf (.lf (.ptr 1 0))), (38, .lf (.lf (.b)))], [.box 8 false [.lf (.i .i64), .lf (.b), .lf (.l 106), .lf (.l 106), .lf (.b), .lf (.s), .lf (.l 28), .lf (.b)], .box 8 false [.lf (.i .i64), .lf (.b), .lf (.l 106), .lf (.l 106), .lf (.b), .lf (.s), .lf (.l 28), .lf (.b)]]⟩, false))], [], []⟩, ⟨spr 44 [(4, .lf (.lf (.b)))], []⟩⟩
theorem res12 : ∀ w, (resP S Try.f12 fm12.fin w).isSome = true := fun _ => by kernel_rfl
/-! 29 sibyl/sibylref05.SameAll -/
def fm29 : Fm := ⟨[.lf (.lf (.l 28)), .lf (.lf (.l 28))], ⟨[], [(58, ⟨⟨spr 27 [(0, .lf (.lf (.l 28))), (1, .lf (.lf (.l 28))), (5, .lf (.lf (.i .i64)))], []⟩, some (0, ⟨spr 27 [], []⟩), true⟩)], []⟩, ⟨spr 27 [(4, .lf (.lf (.b)))], []⟩⟩
theorem res29 : ∀ w, (resP S Try.f29 fm29.fin w).isSome = true := fun _ => by kernel_rfl
noncomputable def Gn12 (It : Iter) : Nat → (Snd S fm12 12 Try.f12) × (Snd S fm29 29 Try.f29)
  | 0 => (Snd.none _ _, Snd.none _ _)
  | n + 1 => (Snd.run SOK (fun f => match f with
    | 28 => .pure (Snd.row SOK (G28 It) res28)
    | 29 => .pure (Snd.row SOK (Gn12 It n).2 res29)
    | _ => .none) It fm12 12 Try.func12 (names _ _ Try.func12),
   Snd.run SOK (fun f => match f with
    | 12 => .pure (Snd.row SOK (Gn12 It n).1 res12)
    | _ => .none) It fm29 29 Try.func29 (names _ _ Try.func29))
noncomputable def G12 (It : Iter) : Snd S fm12 12 Try.f12 := Snd.fuel (fun v => 2 * encTDatum_dep v.1 + 2) (fun n => (Gn12 It n).1)
noncomputable def G29 (It : Iter) : Snd S fm29 29 Try.f29 := Snd.fuel (fun v => 2 * encTDatum_deps v.1 + 2) (fun n => (Gn12 It n).2)
/-! 20 sibyl/sibylref05.Size -/
def fm20 : Fm := ⟨[.st 28], ⟨[], [(58, ⟨⟨spr 21 [(1, .lf (.lf (.ptr 0 0))), (3, .lf (.lf (.i .i64))), (4, .lf (.lf (.i .i64)))], [.box 8 false [.lf (.i .i64), .lf (.b), .lf (.l 106), .lf (.l 106), .lf (.b), .lf (.s), .lf (.l 28), .lf (.b)]]⟩, some (0, ⟨spr 21 [(3, .lf (.lf (.i .i64)))], []⟩), false⟩)], []⟩, ⟨spr 21 [(2, .lf (.lf (.i .i64)))], []⟩⟩
theorem res20 : ∀ w, (resP S Try.f20 fm20.fin w).isSome = true := fun _ => by kernel_rfl
noncomputable def Gn20 (It : Iter) : Nat → Snd S fm20 20 Try.f20
  | 0 => Snd.none _ _
  | n + 1 => Snd.run SOK (fun f => match f with
    | 20 => .pure (Snd.row SOK (Gn20 It n) res20)
    | _ => .none) It fm20 20 Try.func20 (names _ _ Try.func20)
noncomputable def G20 (It : Iter) : Snd S fm20 20 Try.f20 := Snd.fuel (fun v => encTDatum_dep v) (Gn20 It)
/-! 22 sibyl/sibylref05.Pairs -/
def fm22 : Fm := ⟨[.st 28], ⟨[(1956, (⟨spr 37 [(1, .lf (.lf (.ptr 0 0))), (3, .lf (.lf (.i .i64))), (4, .lf (.lf (.i .i64)))], [.box 8 false [.lf (.i .i64), .lf (.b), .lf (.l 106), .lf (.l 106), .lf (.b), .lf (.s), .lf (.l 28), .lf (.b)]]⟩, false)), (3912, (⟨spr 37 [(1, .lf (.lf (.ptr 0 0))), (3, .lf (.lf (.i .i64))), (4, .lf (.lf (.i .i64))), (25, .lf (.lf (.b)))], [.box 8 false [.lf (.i .i64), .lf (.b), .lf (.l 106), .lf (.l 106), .lf (.b), .lf (.s), .lf (.l 28), .lf (.b)]]⟩, false))], [(122, ⟨⟨spr 37 [(1, .lf (.lf (.ptr 0 0))), (3, .lf (.lf (.i .i64))), (4, .lf (.lf (.i .i64)))], [.box 8 false [.lf (.i .i64), .lf (.b), .lf (.l 106), .lf (.l 106), .lf (.b), .lf (.s), .lf (.l 28), .lf (.b)]]⟩, some (0, ⟨spr 37 [(3, .lf (.lf (.i .i64)))], []⟩), false⟩)], []⟩, ⟨spr 37 [(2, .lf (.lf (.i .i64)))], []⟩⟩
theorem res22 : ∀ w, (resP S Try.f22 fm22.fin w).isSome = true := fun _ => by kernel_rfl
noncomputable def Gn22 (It : Iter) : Nat → Snd S fm22 22 Try.f22
  | 0 => Snd.none _ _
  | n + 1 => Snd.run SOK (fun f => match f with
    | 22 => .pure (Snd.row SOK (Gn22 It n) res22)
    | _ => .none) It fm22 22 Try.func22 (names _ _ Try.func22)
noncomputable def G22 (It : Iter) : Snd S fm22 22 Try.f22 := Snd.fuel (fun v => encTDatum_dep v) (Gn22 It)
/-! 5 sibyl/sibyllaw05.DatumCounts -/
def fm5 : Fm := ⟨[.st 28, .st 28], ⟨[(7, (⟨spr 39 [(4, .lf (.lf (.b)))], []⟩, false))], [], []⟩, ⟨spr 39 [(4, .lf (.lf (.b)))], []⟩⟩
theorem res5 : ∀ w, (resP S Try.f5 fm5.fin w).isSome = true := fun _ => by kernel_rfl
noncomputable def G5 (It : Iter) : Snd S fm5 5 Try.f5 := Snd.run SOK (fun f => match f with
    | 9 => .pure (Snd.row SOK (G9 It) res9)
    | 12 => .pure (Snd.row SOK (G12 It) res12)
    | 14 => .pure (Snd.row SOK (G14 It) res14)
    | 18 => .pure (Snd.row SOK (G18 It) res18)
    | 19 => .pure (Snd.row SOK (G19 It) res19)
    | 20 => .pure (Snd.row SOK (G20 It) res20)
    | 21 => .pure (Snd.row SOK (G21 It) res21)
    | 22 => .pure (Snd.row SOK (G22 It) res22)
    | _ => .none) It fm5 5 Try.func5 (names _ _ Try.func5)
end Go.Bx.Dat
