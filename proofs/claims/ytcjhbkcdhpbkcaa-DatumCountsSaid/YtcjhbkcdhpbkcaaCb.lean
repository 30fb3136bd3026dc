/- What the program's functions compute, shown of their code (Cb). Own text; parts are printed by a program of this claim's author. -/
import Derived.Test.YtcjhbkcdhpbkcaaCa
/- Code over plain payload: joins and loops by their forms. (Own text.) -/
namespace Go.Bx
set_option linter.unusedVariables false
set_option linter.unusedSimpArgs false
set_option linter.unusedSectionVars false
set_option linter.unusedVariables false
set_option linter.unusedSectionVars false
set_option linter.unusedSimpArgs false

/-- A loop's form: its head; the exit that it is left by, with the form there; does it end otherwise too. -/
structure LF where
  head : Shp
  exit : Option (Nat × Shp)
  more : Bool
structure Ann where
  /-- Behind the first part of a sequence: the form; may that part end otherwise. -/
  join : List (Nat × (Shp × Bool))
  loops : List (Nat × LF)
  /-- Of a scope: each label's form, and a number for its code. -/
  scopes : List (Nat × List (Nat × (Shp × Nat))) := []
def look {α : Type} (p : Nat) : List (Nat × α) → Option α
  | [] => none
  | (q, x) :: l => if q = p then some x else look p l

/-- Turns. -/
def iter {α γ : Type} (f : α → Option (Ou γ α)) (x : α) : Option γ :=
  f x >>= fun o => match o with
    | .ret g => some g
    | .nxt y => iter f y
 partial_fixpoint

/-- A way to take turns: it finds nothing else than what all turns give. -/
structure Iter where
  run : {α γ : Type} → (α → Option (Ou γ α)) → α → Option γ
  ok : ∀ {α γ : Type} {f : α → Option (Ou γ α)} {x : α} {g : γ}, run f x = some g → iter f x = some g
def iterN {α γ : Type} (f : α → Option (Ou γ α)) : Nat → α → Option γ
  | 0, _ => none
  | n + 1, x => match f x with
    | none => none
    | some (.ret g) => some g
    | some (.nxt y) => iterN f n y
theorem iterN_ok {α γ : Type} {f : α → Option (Ou γ α)} : ∀ {n : Nat} {x : α} {g : γ}, iterN f n x = some g → iter f x = some g
  | 0, x, g, h => by cases h
  | n + 1, x, g, h => by
    simp only [iterN] at h
    rw [iter]
    split at h
    · cases h
    · rename_i g' h1; rw [h1]; exact h
    · rename_i y h1; rw [h1]; exact iterN_ok (n := n) h
/-- All turns. -/
def Iter.all : Iter := ⟨iter, id⟩
/-- No more than so many. -/
def Iter.upto (n : Nat) : Iter := ⟨fun f => iterN f n, iterN_ok⟩

abbrev KT (X : Sys) (β : Type) := Ex → List (SV X.I) → OB X → Option β
def toOu {β γ : Type} : Option β → Option (Ou β γ)
  | some r => some (.ret r)
  | none => none
/-! ### elder objects that are dead at a form take a new number ahead of it -/
def ren3 {I : TypeId → Type} (g : Nat → Nat) : SV I → SV I
  | .tup vs => .tup (vs.map (ren2 g))
  | x => ren2 g x
theorem ren3s_av {X : Sys} (g : Nat → Nat) (l : List (SV X.I)) : avs X (l.map (ren3 g)) = (avs X l).map (rn3 g) := by
  simp only [avs_map, List.map_map]
  refine List.map_congr_left fun x _ => ?_
  cases x <;> simp [ren3, ren2, ren1, ren0, av, rn3, rn2, rn1, rn0, ren0s_av, ren1s_av, ren2s_av]
def mvGo (X : Sys) (k : Nat) : List SOH → Nat → List (SV X.I) → OB X → List (SV X.I) × OB X
  | .dead :: os, a, tm, ob => if Nat.blt a k = true then match ob[a]? with
      | some (some o) => if ((avs X tm).all sh3 && (obs X ob).all shOo) = true then mvGo X k os (a + 1) (tm.map (ren3 (mv a ob.length))) (((ob.map (Option.map (renO (mv a ob.length)))).set a none) ++ [some (renO (mv a ob.length) o)]) else mvGo X k os (a + 1) tm ob
      | _ => mvGo X k os (a + 1) tm ob
    else (tm, ob)
  | .box _ _ _ :: os, a, tm, ob => mvGo X k os (a + 1) tm ob
  | .row _ _ _ :: os, a, tm, ob => mvGo X k os (a + 1) tm ob
  | [], _, tm, ob => (tm, ob)
theorem mvGo_zero {X : Sys} : ∀ (os : List SOH) (a : Nat) (tm : List (SV X.I)) (ob : OB X), mvGo X 0 os a tm ob = (tm, ob)
  | [], _, _, _ => rfl
  | .dead :: os, a, tm, ob => by simp [mvGo, Nat.blt]
  | .box _ _ _ :: os, a, tm, ob => by simp only [mvGo]; exact mvGo_zero os _ tm ob
  | .row _ _ _ :: os, a, tm, ob => by simp only [mvGo]; exact mvGo_zero os _ tm ob
theorem mvGo_some {X : Sys} (hX : SysOK X) {base : Nat} {c00 : Ctx} {O : List (Option Obj)} (hU : Under X.E base c00 (St O)) {c0 : Nat} {k : Nat} : ∀ (os : List SOH) (a : Nat) (tm : List (SV X.I)) (ob : OB X),
    Wk base c00 (St O) (fsS X (some 0) c0 tm ob) (fsS X (some 0) c0 (mvGo X k os a tm ob).1 (mvGo X k os a tm ob).2)
  | [], _, _, _ => Wk.refl
  | .dead :: os, a, tm, ob => by
    simp only [mvGo]
    split
    · split
      · rename_i o ho
        split
        · rename_i hc
          simp only [Bool.and_eq_true] at hc
          have h1 := Wk.move hU (tm := avs X tm) (l := obs X ob) (c0 := c0) a (SO.obj X o) (by simp [obs, ho]) hc.1 hc.2
          refine Wk.trans ?_ (mvGo_some hX hU os (a + 1) _ _)
          have e : fsS X (some 0) c0 (tm.map (ren3 (mv a ob.length))) (((ob.map (Option.map (renO (mv a ob.length)))).set a none) ++ [some (renO (mv a ob.length) o)]) = ⟨(avs X tm).map (rn3 (mv a (obs X ob).length)), St ((((obs X ob).map (Option.map (rnO (mv a (obs X ob).length)))).set a none) ++ [some (rnO (mv a (obs X ob).length) (SO.obj X o))]), some 0, c0⟩ := by
            simp only [fsS, ren3s_av, obs_len]
            congr 2
            simp only [obs, List.map_append, List.map_set, List.map_map, List.map_cons, List.map_nil, Option.map_some, Option.map_none, renO_obj _ hX]
            congr 2
            refine List.map_congr_left fun q _ => ?_
            cases q <;> simp [renO_obj _ hX]
          rw [e]; exact h1
        · exact mvGo_some hX hU os _ tm ob
      · exact mvGo_some hX hU os _ tm ob
    · exact Wk.refl
  | .box _ _ _ :: os, a, tm, ob => by simp only [mvGo]; exact mvGo_some hX hU os _ tm ob
  | .row _ _ _ :: os, a, tm, ob => by simp only [mvGo]; exact mvGo_some hX hU os _ tm ob
/-- To a form, and on. -/
def goTo {β : Type} (X : Sys) (k : Nat) (S : Shp) (tm : List (SV X.I)) (ob : OB X) (K : TT X.I S.ks → Option β) : Option β :=
  xWeak X k S (mvGo X k S.ob 0 tm ob).1 (mvGo X k S.ob 0 tm ob).2 fun ds => match toT S.ks ds with
    | some v => K v
    | none => none
def from_ {β : Type} (X : Sys) (S : Shp) (v : TT X.I S.ks) (K : List (SV X.I) → OB X → Option β) : Option β :=
  match build X S (ofT S.ks v) with
  | some (tm, ob) => K tm ob
  | none => none

/-- What a jump within a scope carries: a label's payload. -/
def Sg (X : Sys) : List (Nat × (Shp × Nat)) → Type
  | [] => Empty
  | (_, (S, _)) :: fs => TT X.I S.ks ⊕ Sg X fs
structure SgV (X : Sys) where
  l : Nat
  S : Shp
  v : TT X.I S.ks
def sgV (X : Sys) : (fs : List (Nat × (Shp × Nat))) → Sg X fs → SgV X
  | (l, (S, _)) :: _, .inl v => ⟨l, S, v⟩
  | (_, _) :: fs, .inr s => sgV X fs s
/-- By its label. -/
def sgE (X : Sys) {γ : Type} : (fs : List (Nat × (Shp × Nat))) → Sg X fs → ((l : Nat) → (S : Shp) → Nat → TT X.I S.ks → Option γ) → Option γ
  | [] => fun _ _ => none
  | (l, (S, r)) :: fs => fun (s : TT X.I S.ks ⊕ Sg X fs) f => match s with
    | .inl v => f l S r v
    | .inr s => sgE X fs s f
def sgI (X : Sys) {γ : Type} : (fs : List (Nat × (Shp × Nat))) → Nat → ((S : Shp) → (TT X.I S.ks → Sg X fs) → Option γ) → Option γ
  | [], _, _ => none
  | (l', (S, _)) :: fs, l, k => if l' = l then k S Sum.inl else sgI X fs l fun S i => k S fun v => Sum.inr (i v)
theorem sgE_ok {X : Sys} {γ : Type} : ∀ {fs : List (Nat × (Shp × Nat))} {s : Sg X fs} {f : (l : Nat) → (S : Shp) → Nat → TT X.I S.ks → Option γ} {g : γ}, sgE X fs s f = some g → ∃ r, f (sgV X fs s).l (sgV X fs s).S r (sgV X fs s).v = some g
  | [], s, _, _, _ => nomatch s
  | (l, (S, r)) :: _, .inl v, f, g, h => ⟨r, h⟩
  | (_, _) :: fs, .inr s, f, g, h => sgE_ok (fs := fs) h
theorem sgI_ok {X : Sys} {γ : Type} {g : γ} : ∀ {fs : List (Nat × (Shp × Nat))} {l : Nat} {k : (S : Shp) → (TT X.I S.ks → Sg X fs) → Option γ}, sgI X fs l k = some g → ∃ S i, k S i = some g ∧ ∀ v, sgV X fs (i v) = ⟨l, S, v⟩
  | [], _, _, h => by cases h
  | (l', (S, _)) :: fs, l, k, h => by
    simp only [sgI] at h
    split at h
    · rename_i hl; subst hl; exact ⟨S, _, h, fun v => rfl⟩
    · obtain ⟨S', i, h1, h2⟩ := sgI_ok h
      exact ⟨S', _, h1, fun v => h2 v⟩
/-- A jump within a scope goes to its label's form. -/
def scK (X : Sys) (k : Nat) (fs : List (Nat × (Shp × Nat))) (b : Code) {β : Type} (K : KT X β) : KT X (Ou β (Sg X fs)) := fun ex tm ob => match ex with
  | .goto l => match findLabel b l with
    | some _ => sgI X fs l fun S i => goTo X k S tm ob fun v => some (.nxt (i v))
    | none => toOu (K (.goto l) tm ob)
  | ex => toOu (K ex tm ob)
abbrev CB (X : Sys) := Code → Nat → (β : Type) → List (SV X.I) → OB X → KT X β → Option β

def xC1 (X : Sys) (C : Calls_ X) (It : Iter) (A : Ann) (k : Nat) (cb : CB X) : Code → Nat → (β : Type) → List (SV X.I) → OB X → KT X β → Option β
  | .skip, _, _, tm, ob, K => K .nrm tm ob
  | .exit id, _, _, tm, ob, K => K (.exit id) tm ob
  | .ret, _, _, tm, ob, K => K .ret tm ob
  | .region _ ops draw, _, _, tm, ob, K => xRegion X C ops draw tm ob (K .nrm) (fun V => K (.pan V) [] [])
  | .seq a b, p, β, tm, ob, K => match look p A.join with
    | none => xC1 X C It A k cb a (2 * p) β tm ob fun ex tm' ob' => match ex with
      | .nrm => xC1 X C It A k cb b (2 * p + 1) β tm' ob' K
      | ex => K ex tm' ob'
    | some (J, false) => xC1 X C It A k cb a (2 * p) (TT X.I J.ks) tm ob (fun ex tm' ob' => match ex with
        | .nrm => goTo X k J tm' ob' fun v => some v
        | _ => none) >>= fun v => from_ X J v fun tm' ob' => xC1 X C It A k cb b (2 * p + 1) β tm' ob' K
    | some (J, true) => xC1 X C It A k cb a (2 * p) (Ou β (TT X.I J.ks)) tm ob (fun ex tm' ob' => match ex with
        | .nrm => goTo X k J tm' ob' fun v => some (.nxt v)
        | ex => toOu (K ex tm' ob')) >>= fun o => match o with
          | .ret r => some r
          | .nxt v => from_ X J v fun tm' ob' => xC1 X C It A k cb b (2 * p + 1) β tm' ob' K
  | .cond c a b, p, β, tm, ob, K => match rho tm c with
    | .b z => if z = true then xC1 X C It A k cb a (2 * p) β tm ob K else xC1 X C It A k cb b (2 * p + 1) β tm ob K
    | _ => none
  | .block id b, p, β, tm, ob, K => xC1 X C It A k cb b (2 * p) β tm ob fun ex tm' ob' => match ex with
    | .exit id' => if id' = id then K .nrm tm' ob' else K (.exit id') tm' ob'
    | ex => K ex tm' ob'
  | .loop b, p, β, tm, ob, K => match look p A.loops with
    | some ⟨H, some (j, S), false⟩ => goTo X k H tm ob fun v0 => It.run (fun v => from_ X H v fun tm1 ob1 => xC1 X C It A k cb b (2 * p) (Ou (TT X.I S.ks) (TT X.I H.ks)) tm1 ob1 fun ex tm2 ob2 => match ex with
        | .nrm => goTo X k H tm2 ob2 fun v => some (.nxt v)
        | .exit i => if i = j then goTo X k S tm2 ob2 fun w => some (.ret w) else none
        | _ => none) v0 >>= fun w => from_ X S w fun tm' ob' => K (.exit j) tm' ob'
    | some ⟨H, some (j, S), true⟩ => goTo X k H tm ob fun v0 => It.run (fun v => from_ X H v fun tm1 ob1 => xC1 X C It A k cb b (2 * p) (Ou (Ou β (TT X.I S.ks)) (TT X.I H.ks)) tm1 ob1 fun ex tm2 ob2 => match ex with
        | .nrm => goTo X k H tm2 ob2 fun v => some (.nxt v)
        | .exit i => if i = j then goTo X k S tm2 ob2 fun w => some (.ret (.nxt w)) else toOu (toOu (K (.exit i) tm2 ob2))
        | ex => toOu (toOu (K ex tm2 ob2))) v0 >>= fun o => match o with
          | .ret r => some r
          | .nxt w => from_ X S w fun tm' ob' => K (.exit j) tm' ob'
    | some ⟨H, none, _⟩ => goTo X k H tm ob fun v0 => It.run (fun v => from_ X H v fun tm1 ob1 => xC1 X C It A k cb b (2 * p) (Ou β (TT X.I H.ks)) tm1 ob1 fun ex tm2 ob2 => match ex with
        | .nrm => goTo X k H tm2 ob2 fun v => some (.nxt v)
        | ex => toOu (K ex tm2 ob2)) v0
    | none => none
  | .label _, _, _, tm, ob, K => K .nrm tm ob
  | .goto l, _, _, tm, ob, K => K (.goto l) tm ob
  | .scope b, p, β, tm, ob, K => match look p A.scopes with
    | some fs => xC1 X C It A k cb b (2 * p) (Ou β (Sg X fs)) tm ob (scK X k fs b K) >>= fun o => match o with
      | .ret r => some r
      | .nxt s0 => It.run (fun s => sgE X fs s fun l S r v => match findLabel b l with
        | some c => from_ X S v fun tm1 ob1 => cb c r (Ou β (Sg X fs)) tm1 ob1 (scK X k fs b K)
        | none => none) s0
    | none => none
  | _, _, _, _, _, _ => none
def xCd (X : Sys) (C : Calls_ X) (It : Iter) (A : Ann) (k : Nat) : Nat → CB X
  | 0 => fun _ _ _ _ _ _ => none
  | d + 1 => xC1 X C It A k (xCd X C It A k d)
/-- Code over plain payload. -/
def xC (X : Sys) (C : Calls_ X) (It : Iter) (A : Ann) (k : Nat) : CB X := xCd X C It A k 4


theorem toOu_some {β γ : Type} {x : Option β} {o : Ou β γ} (h : toOu x = some o) : ∃ r, x = some r ∧ o = .ret r := by
  cases x with
  | none => cases h
  | some r => cases h; exact ⟨r, rfl, rfl⟩

section
variable {X : Sys} (hX : SysOK X) {base : Nat} {c00 : Ctx} {O : List (Option Obj)} (hU : Under X.E base c00 (St O)) {low : Option Nat} {c0 : Nat} (hm : Mode low c0) (hz : O.length = 0 ∨ low = some 0)
include hX hU hm hz
theorem goTo_ok {β : Type} {S : Shp} {tm : List (SV X.I)} {ob : OB X} {K : TT X.I S.ks → Option β} {r : β} (h : goTo X O.length S tm ob K = some r) :
    ∃ v tm' ob', K v = some r ∧ build X S (ofT S.ks v) = some (tm', ob') ∧ Wk base c00 (St O) (fsS X low c0 tm ob) (fsS X low c0 tm' ob') := by
  unfold goTo at h
  have hw : Wk base c00 (St O) (fsS X low c0 tm ob) (fsS X low c0 (mvGo X O.length S.ob 0 tm ob).1 (mvGo X O.length S.ob 0 tm ob).2) := by
    rcases hz with hz | hz
    · rw [hz, mvGo_zero]; exact Wk.refl
    · subst hz; exact mvGo_some hX hU _ _ _ _
  obtain ⟨ds, tm', ob', h1, _, h3, h4⟩ := xWeak_ok hX hU hm h
  split at h1
  · rename_i v hv
    exact ⟨v, tm', ob', h1, by rw [toT_ofT hv]; exact h3, hw.trans h4⟩
  · cases h1
omit hX hU hm hz in
theorem from_ok {β : Type} {S : Shp} {v : TT X.I S.ks} {K : List (SV X.I) → OB X → Option β} {r : β} {tm : List (SV X.I)} {ob : OB X} (hb : build X S (ofT S.ks v) = some (tm, ob)) (h : from_ X S v K = some r) : K tm ob = some r := by
  unfold from_ at h
  rw [hb] at h; exact h

/-- A loop's turns. -/
theorem iter_ok {γ : Type} {H : Shp} {b : Code} {f : TT X.I H.ks → Option (Ou γ (TT X.I H.ks))} {R : γ → Post}
    (hf : ∀ v o tm ob, f v = some o → build X H (ofT H.ks v) = some (tm, ob) → Wp X.E base c00 (St O) b (fsS X low c0 tm ob) (fun ex s => match o with
      | .ret g => ex ≠ .nrm ∧ R g ex s
      | .nxt v' => ex = .nrm ∧ ∃ tm' ob', build X H (ofT H.ks v') = some (tm', ob') ∧ Wk base c00 (St O) s (fsS X low c0 tm' ob'))) {v : TT X.I H.ks} {g : γ} (h : iter f v = some g) :
    ∀ {tm : List (SV X.I)} {ob : OB X}, build X H (ofT H.ks v) = some (tm, ob) → WpL X.E base c00 (St O) b (fsS X low c0 tm ob) (R g) := by
  refine iter.partial_correctness f (fun v g => ∀ {tm : List (SV X.I)} {ob : OB X}, build X H (ofT H.ks v) = some (tm, ob) → WpL X.E base c00 (St O) b (fsS X low c0 tm ob) (R g)) ?_ v g h
  intro it ih v g h tm ob hb
  obtain ⟨o, h1, h2⟩ := bind_some' h
  refine WpL.step (Tw.mono (hf v o tm ob h1 hb) fun ex s1 hs => ?_)
  cases o with
  | ret g' =>
    simp only at h2 hs
    cases h2
    obtain ⟨hn, hs⟩ := hs
    cases ex <;> first | exact absurd rfl hn | exact hs
  | nxt v' =>
    simp only at h2 hs
    obtain ⟨rfl, tm', ob', h3, h4⟩ := hs
    exact h4.wpL (ih _ _ h2 h3)

omit hX hU hm hz in
/-- A post that holds of what is told with more. -/
theorem clos_then {b : Code} {R : Post} (hR : ∀ ex s s', Wk base c00 (St O) s s' → R ex s' → R ex s) : ∀ ex s s', Wk base c00 (St O) s s' → Then X.E base c00 (St O) b R ex s' → Then X.E base c00 (St O) b R ex s := by
  intro ex s s' hw h
  cases ex with
  | nrm => exact hw.wp h
  | _ => exact hR _ _ _ hw h
omit hX hU hm hz in
theorem clos_blk {id : Nat} {R : Post} (hR : ∀ ex s s', Wk base c00 (St O) s s' → R ex s' → R ex s) : ∀ ex s s', Wk base c00 (St O) s s' → InBlk id R ex s' → InBlk id R ex s := by
  intro ex s s' hw h
  cases ex with
  | exit i =>
    simp only [InBlk] at h ⊢
    split
    · rename_i he; rw [if_pos he] at h; exact hR _ _ _ hw h
    · rename_i he; rw [if_neg he] at h; exact hR _ _ _ hw h
  | _ => exact hR _ _ _ hw h
/-- The end at a form. -/
def AtF (X : Sys) (base : Nat) (c00 : Ctx) (O : List (Option Obj)) (low : Option Nat) (c0 : Nat) (S : Shp) (v : TT X.I S.ks) (s : FS) : Prop := ∃ tm' ob', build X S (ofT S.ks v) = some (tm', ob') ∧ Wk base c00 (St O) s (fsS X low c0 tm' ob')
/-- An end that goes on by K. -/
def ByK (X : Sys) (base : Nat) (c00 : Ctx) (O : List (Option Obj)) (low : Option Nat) (c0 : Nat) {β : Type} (K : KT X β) (r : β) (ex : Ex) (s : FS) : Prop := ∃ tm' ob', K ex tm' ob' = some r ∧ Wk base c00 (St O) s (fsS X low c0 tm' ob')

/-- What is asked of a way to run code. -/
def CBOK (X : Sys) (base : Nat) (c00 : Ctx) (O : List (Option Obj)) (low : Option Nat) (c0 : Nat) (cb : CB X) : Prop :=
  ∀ (c : Code) (p : Nat) (β : Type) (tm : List (SV X.I)) (ob : OB X) (K : KT X β) (r : β) (R : Post), cb c p β tm ob K = some r →
    (∀ ex s s', Wk base c00 (St O) s s' → R ex s' → R ex s) → (∀ ex tm' ob', K ex tm' ob' = some r → R ex (fsS X low c0 tm' ob')) → Wp X.E base c00 (St O) c (fsS X low c0 tm ob) R
/-- How a turn within a scope ends. -/
def ScP (X : Sys) (base : Nat) (c00 : Ctx) (O : List (Option Obj)) (low : Option Nat) (c0 : Nat) (fs : List (Nat × (Shp × Nat))) (b : Code) {β : Type} (K : KT X β) (o : Ou β (Sg X fs)) : Post := fun ex s => match o with
  | .ret r => (∀ l, ex = .goto l → findLabel b l = none) ∧ ByK X base c00 O low c0 K r ex s
  | .nxt s' => ex = .goto (sgV X fs s').l ∧ (findLabel b (sgV X fs s').l).isSome = true ∧ AtF X base c00 O low c0 (sgV X fs s').S (sgV X fs s').v s
omit hX hU hm hz in
theorem scP_clos {fs : List (Nat × (Shp × Nat))} {b : Code} {β : Type} {K : KT X β} {o : Ou β (Sg X fs)} : ∀ ex s s', Wk base c00 (St O) s s' → ScP X base c00 O low c0 fs b K o ex s' → ScP X base c00 O low c0 fs b K o ex s := by
  intro ex s s' hw h
  cases o with
  | ret r => exact ⟨h.1, h.2.choose, h.2.choose_spec.choose, h.2.choose_spec.choose_spec.1, hw.trans h.2.choose_spec.choose_spec.2⟩
  | nxt s' => exact ⟨h.1, h.2.1, h.2.2.choose, h.2.2.choose_spec.choose, h.2.2.choose_spec.choose_spec.1, hw.trans h.2.2.choose_spec.choose_spec.2⟩
theorem scP_K {fs : List (Nat × (Shp × Nat))} {b : Code} {β : Type} {K : KT X β} {o : Ou β (Sg X fs)} {ex : Ex} {tm : List (SV X.I)} {ob : OB X} (h : scK X O.length fs b K ex tm ob = some o) : ScP X base c00 O low c0 fs b K o ex (fsS X low c0 tm ob) := by
  unfold scK at h
  split at h
  · rename_i l
    split at h
    · rename_i c hl
      obtain ⟨S, i, h, hi⟩ := sgI_ok h
      obtain ⟨v, tm', ob', g1, g2, g3⟩ := goTo_ok hX hU hm hz h
      cases g1
      simp only [ScP]
      rw [hi]
      exact ⟨rfl, by rw [hl]; rfl, tm', ob', g2, g3⟩
    · rename_i hl
      obtain ⟨r, g1, rfl⟩ := toOu_some h
      exact ⟨fun l' e => by cases e; exact hl, tm, ob, g1, Wk.refl⟩
  · rename_i hn
    obtain ⟨r, g1, rfl⟩ := toOu_some h
    exact ⟨fun l' e => absurd e (hn l'), tm, ob, g1, Wk.refl⟩
omit hX hU hm hz in
theorem sc_end {fs : List (Nat × (Shp × Nat))} {b : Code} {β : Type} {K : KT X β} {o : Ou β (Sg X fs)} {R : Post} {ex : Ex} {s1 : FS} (hs : ScP X base c00 O low c0 fs b K o ex s1)
    (hr : ∀ r, o = .ret r → ByK X base c00 O low c0 K r ex s1 → R ex s1)
    (hn : ∀ (s' : Sg X fs) tm ob c, o = .nxt s' → build X (sgV X fs s').S (ofT (sgV X fs s').S.ks (sgV X fs s').v) = some (tm, ob) → findLabel b (sgV X fs s').l = some c → WpS X.E base c00 (St O) b c (fsS X low c0 tm ob) R) :
    Jump X.E base c00 (St O) b R ex s1 := by
  cases o with
  | ret r =>
    obtain ⟨h1, h2⟩ := hs
    have h3 := hr r rfl h2
    cases ex with
    | goto l => simp only [Jump, h1 l rfl]; exact h3
    | _ => exact h3
  | nxt s' =>
    obtain ⟨rfl, h1, tm, ob, h2, h3⟩ := hs
    obtain ⟨c, hc⟩ := Option.isSome_iff_exists.1 h1
    simp only [Jump, hc]
    exact Wk.tw h3 (hn s' tm ob c rfl h2 hc)
theorem sc_iter {fs : List (Nat × (Shp × Nat))} {b : Code} {β : Type} {K : KT X β} {cb : CB X} (hcb : CBOK X base c00 O low c0 cb) {s0 : Sg X fs} {g : β}
    (h : iter (fun s : Sg X fs => sgE X fs s fun l S r v => match findLabel b l with
        | some c => from_ X S v fun tm1 ob1 => cb c r (Ou β (Sg X fs)) tm1 ob1 (scK X O.length fs b K)
        | none => none) s0 = some g) : ∀ {tm : List (SV X.I)} {ob : OB X} {c : Code}, build X (sgV X fs s0).S (ofT (sgV X fs s0).S.ks (sgV X fs s0).v) = some (tm, ob) → findLabel b (sgV X fs s0).l = some c →
      WpS X.E base c00 (St O) b c (fsS X low c0 tm ob) (ByK X base c00 O low c0 K g) := by
  refine iter.partial_correctness _ (fun (s0 : Sg X fs) g => ∀ {tm : List (SV X.I)} {ob : OB X} {c : Code}, build X (sgV X fs s0).S (ofT (sgV X fs s0).S.ks (sgV X fs s0).v) = some (tm, ob) → findLabel b (sgV X fs s0).l = some c →
      WpS X.E base c00 (St O) b c (fsS X low c0 tm ob) (ByK X base c00 O low c0 K g)) ?_ s0 g h
  intro it ih s g h tm ob c hb hl
  obtain ⟨o, h1, h2⟩ := bind_some' h
  obtain ⟨r1, h1⟩ := sgE_ok h1
  simp only [hl] at h1
  have hw := hcb _ _ _ _ _ _ _ (ScP X base c00 O low c0 fs b K o) (from_ok hb h1) scP_clos fun ex tm' ob' hk => scP_K hX hU hm hz hk
  refine WpS.step (Tw.mono hw fun ex s1 hs => ?_)
  exact sc_end hs (fun r' e => by subst e; simp only at h2; cases h2; exact fun h => h) (fun s' tm2 ob2 c2 e hb2 hl2 => by subst e; simp only at h2; exact ih _ _ h2 hb2 hl2)

theorem xC1_ok {C : Calls_ X} {It : Iter} {A : Ann} {cb : CB X} (hcb : CBOK X base c00 O low c0 cb) : ∀ (c : Code) (p : Nat) (β : Type) (tm : List (SV X.I)) (ob : OB X) (K : KT X β) (r : β) (R : Post), xC1 X C It A O.length cb c p β tm ob K = some r →
    (∀ ex s s', Wk base c00 (St O) s s' → R ex s' → R ex s) → (∀ ex tm' ob', K ex tm' ob' = some r → R ex (fsS X low c0 tm' ob')) → Wp X.E base c00 (St O) c (fsS X low c0 tm ob) R := by
  intro c
  induction c with
  | skip => intro p β tm ob K r R h hR hK; exact Wp.skip (hK _ _ _ h)
  | exit id => intro p β tm ob K r R h hR hK; exact Wp.exit (hK _ _ _ h)
  | ret => intro p β tm ob K r R h hR hK; exact Wp.ret (hK _ _ _ h)
  | region id ops d => intro p β tm ob K r R h hR hK; exact xRegion_ok hX hm hU h (fun tm' ob' hk => hK _ _ _ hk) (fun V hk => hK _ _ _ hk)
  | seq a b iha ihb =>
    intro p β tm ob K r R h hR hK
    simp only [xC1] at h
    split at h
    · refine Wp.seq (iha _ _ _ _ _ _ _ h (clos_then hR) fun ex tm' ob' hk => ?_)
      cases ex with
      | nrm => exact ihb _ _ _ _ _ _ _ hk hR hK
      | _ => exact hK _ _ _ hk
    · rename_i J _
      obtain ⟨v, h1, h2⟩ := bind_some' h
      refine Wp.seq (Tw.mono (iha _ _ _ _ _ _ (fun ex s => ex = .nrm ∧ AtF X base c00 O low c0 J v s) h1 (fun ex s s' hw => fun ⟨h1, tm', ob', h2, h3⟩ => ⟨h1, tm', ob', h2, hw.trans h3⟩) fun ex tm' ob' hk => ?_) fun ex s hs => ?_)
      · cases ex with
        | nrm =>
          obtain ⟨v', tm2, ob2, g1, g2, g3⟩ := goTo_ok hX hU hm hz hk
          cases g1
          exact ⟨rfl, tm2, ob2, g2, g3⟩
        | _ => cases hk
      · obtain ⟨rfl, tm', ob', g2, g3⟩ := hs
        exact g3.wp (ihb _ _ _ _ _ _ _ (from_ok g2 h2) hR hK)
    · rename_i J _
      obtain ⟨o, h1, h2⟩ := bind_some' h
      refine Wp.seq (Tw.mono (iha _ _ _ _ _ _ (fun ex s => match o with
        | .ret r' => ex ≠ .nrm ∧ ByK X base c00 O low c0 K r' ex s
        | .nxt v => ex = .nrm ∧ AtF X base c00 O low c0 J v s) h1 (fun ex s s' hw => ?_) fun ex tm' ob' hk => ?_) fun ex s hs => ?_)
      · cases o with
        | ret r' => exact fun ⟨h1, tm', ob', h2, h3⟩ => ⟨h1, tm', ob', h2, hw.trans h3⟩
        | nxt v => exact fun ⟨h1, tm', ob', h2, h3⟩ => ⟨h1, tm', ob', h2, hw.trans h3⟩
      · cases ex with
        | nrm =>
          obtain ⟨v', tm2, ob2, g1, g2, g3⟩ := goTo_ok hX hU hm hz hk
          cases g1
          exact ⟨rfl, tm2, ob2, g2, g3⟩
        | _ =>
          obtain ⟨r', g1, rfl⟩ := toOu_some hk
          exact ⟨nofun, tm', ob', g1, Wk.refl⟩
      · cases o with
        | ret r' =>
          simp only at h2 hs
          cases h2
          obtain ⟨hn, tm', ob', g1, g2⟩ := hs
          cases ex <;> first | exact absurd rfl hn | exact hR _ _ _ g2 (hK _ _ _ g1)
        | nxt v =>
          simp only at h2 hs
          obtain ⟨rfl, tm', ob', g2, g3⟩ := hs
          exact g3.wp (ihb _ _ _ _ _ _ _ (from_ok g2 h2) hR hK)
  | cond q a b iha ihb =>
    intro p β tm ob K r R h hR hK
    simp only [xC1] at h
    split at h
    · rename_i z hz
      refine Wp.cond hU (t := z) (by simp only [fsS, rho_av hX, hz, av]) (fun hzt => ?_) (fun hzf => ?_)
      · rw [if_pos hzt] at h; exact iha _ _ _ _ _ _ _ h hR hK
      · rw [if_neg (by rw [hzf]; decide)] at h; exact ihb _ _ _ _ _ _ _ h hR hK
    · cases h
  | block id b ih =>
    intro p β tm ob K r R h hR hK
    simp only [xC1] at h
    refine Wp.block (ih _ _ _ _ _ _ _ h (clos_blk hR) fun ex tm' ob' hk => ?_)
    cases ex with
    | exit id' =>
      simp only [InBlk]
      simp only at hk
      split
      · rename_i he; rw [if_pos he] at hk; exact hK _ _ _ hk
      · rename_i he; rw [if_neg he] at hk; exact hK _ _ _ hk
    | _ => exact hK _ _ _ hk
  | loop b ih =>
    intro p β tm ob K r R h hR hK
    simp only [xC1] at h
    split at h
    · rename_i H j S _
      obtain ⟨v0, tm0, ob0, h1, h2, h3⟩ := goTo_ok hX hU hm hz h
      obtain ⟨w, h4, h5⟩ := bind_some' h1
      refine Wp.loop (h3.wpL (Tw.mono (iter_ok hX hU hm hz (R := fun w ex s => ex = .exit j ∧ AtF X base c00 O low c0 S w s) (fun v o tm1 ob1 hf hb => ?_) (It.ok h4) h2) fun ex s hs => ?_))
      · refine ih _ _ _ _ _ _ _ (from_ok hb hf) (fun ex s s' hw => ?_) fun ex tm2 ob2 hk => ?_
        · cases o with
          | ret g => exact fun ⟨h0, h1, tm', ob', h2, h3⟩ => ⟨h0, h1, tm', ob', h2, hw.trans h3⟩
          | nxt v => exact fun ⟨h1, tm', ob', h2, h3⟩ => ⟨h1, tm', ob', h2, hw.trans h3⟩
        · cases ex with
          | nrm =>
            obtain ⟨v', tm3, ob3, g1, g2, g3⟩ := goTo_ok hX hU hm hz hk
            cases g1
            exact ⟨rfl, tm3, ob3, g2, g3⟩
          | exit i =>
            simp only at hk
            split at hk
            · rename_i hi; subst hi
              obtain ⟨v', tm3, ob3, g1, g2, g3⟩ := goTo_ok hX hU hm hz hk
              cases g1
              exact ⟨nofun, rfl, tm3, ob3, g2, g3⟩
            · cases hk
          | _ => cases hk
      · obtain ⟨rfl, tm', ob', g2, g3⟩ := hs
        exact hR _ _ _ g3 (hK _ _ _ (from_ok g2 h5))
    · rename_i H j S _
      obtain ⟨v0, tm0, ob0, h1, h2, h3⟩ := goTo_ok hX hU hm hz h
      obtain ⟨w, h4, h5⟩ := bind_some' h1
      refine Wp.loop (h3.wpL (Tw.mono (iter_ok hX hU hm hz (R := fun w ex s => match w with
        | .ret r' => ByK X base c00 O low c0 K r' ex s
        | .nxt w => ex = .exit j ∧ AtF X base c00 O low c0 S w s) (fun v o tm1 ob1 hf hb => ?_) (It.ok h4) h2) fun ex s hs => ?_))
      · refine ih _ _ _ _ _ _ _ (from_ok hb hf) (fun ex s s' hw => ?_) fun ex tm2 ob2 hk => ?_
        · cases o with
          | ret g =>
            cases g with
            | ret r' => exact fun ⟨h0, tm', ob', h2, h3⟩ => ⟨h0, tm', ob', h2, hw.trans h3⟩
            | nxt w => exact fun ⟨h0, h1, tm', ob', h2, h3⟩ => ⟨h0, h1, tm', ob', h2, hw.trans h3⟩
          | nxt v => exact fun ⟨h1, tm', ob', h2, h3⟩ => ⟨h1, tm', ob', h2, hw.trans h3⟩
        · cases ex with
          | nrm =>
            obtain ⟨v', tm3, ob3, g1, g2, g3⟩ := goTo_ok hX hU hm hz hk
            cases g1
            exact ⟨rfl, tm3, ob3, g2, g3⟩
          | exit i =>
            simp only at hk
            split at hk
            · rename_i hi; subst hi
              obtain ⟨v', tm3, ob3, g1, g2, g3⟩ := goTo_ok hX hU hm hz hk
              cases g1
              exact ⟨nofun, rfl, tm3, ob3, g2, g3⟩
            · obtain ⟨r1, g1, rfl⟩ := toOu_some hk
              obtain ⟨r2, g2, rfl⟩ := toOu_some g1
              exact ⟨nofun, tm2, ob2, g2, Wk.refl⟩
          | _ =>
            obtain ⟨r1, g1, rfl⟩ := toOu_some hk
            obtain ⟨r2, g2, rfl⟩ := toOu_some g1
            exact ⟨nofun, tm2, ob2, g2, Wk.refl⟩
      · cases w with
        | ret r' =>
          simp only at h5 hs
          cases h5
          obtain ⟨tm', ob', g1, g2⟩ := hs
          exact hR _ _ _ g2 (hK _ _ _ g1)
        | nxt w =>
          simp only at h5 hs
          obtain ⟨rfl, tm', ob', g2, g3⟩ := hs
          exact hR _ _ _ g3 (hK _ _ _ (from_ok g2 h5))
    · rename_i H _ _
      obtain ⟨v0, tm0, ob0, h1, h2, h3⟩ := goTo_ok hX hU hm hz h
      refine Wp.loop (h3.wpL (Tw.mono (iter_ok hX hU hm hz (R := fun r' ex s => ByK X base c00 O low c0 K r' ex s) (fun v o tm1 ob1 hf hb => ?_) (It.ok h1) h2) fun ex s hs => ?_))
      · refine ih _ _ _ _ _ _ _ (from_ok hb hf) (fun ex s s' hw => ?_) fun ex tm2 ob2 hk => ?_
        · cases o with
          | ret g => exact fun ⟨h0, tm', ob', h2, h3⟩ => ⟨h0, tm', ob', h2, hw.trans h3⟩
          | nxt v => exact fun ⟨h1, tm', ob', h2, h3⟩ => ⟨h1, tm', ob', h2, hw.trans h3⟩
        · cases ex with
          | nrm =>
            obtain ⟨v', tm3, ob3, g1, g2, g3⟩ := goTo_ok hX hU hm hz hk
            cases g1
            exact ⟨rfl, tm3, ob3, g2, g3⟩
          | _ =>
            obtain ⟨r1, g1, rfl⟩ := toOu_some hk
            exact ⟨nofun, tm2, ob2, g1, Wk.refl⟩
      · obtain ⟨tm', ob', g1, g2⟩ := hs
        exact hR _ _ _ g2 (hK _ _ _ g1)
    · cases h
  | rangeFunc => intro p β tm ob K r R h hR hK; simp [xC1] at h
  | refuse => intro p β tm ob K r R h hR hK; simp [xC1] at h
  | label l => intro p β tm ob K r R h hR hK; exact Wp.label (hK _ _ _ h)
  | goto l => intro p β tm ob K r R h hR hK; exact Wp.goto (hK _ _ _ h)
  | scope b ih =>
    intro p β tm ob K r R h hR hK
    simp only [xC1] at h
    split at h
    · rename_i fs _
      obtain ⟨o, h1, h2⟩ := bind_some' h
      have hw := ih _ _ _ _ _ _ (ScP X base c00 O low c0 fs b K o) h1 scP_clos fun ex tm' ob' hk => scP_K hX hU hm hz hk
      have hfin : ∀ {ex s}, ByK X base c00 O low c0 K r ex s → R ex s := fun ⟨tm', ob', g1, g2⟩ => hR _ _ _ g2 (hK _ _ _ g1)
      refine Wp.scope (WpS.step (Tw.mono hw fun ex s1 hs => sc_end hs (fun r' e hb => ?_) (fun s' tm2 ob2 c2 e hb2 hl2 => ?_)))
      · subst e; simp only at h2; cases h2; exact hfin hb
      · subst e; simp only at h2
        exact Tw.mono (sc_iter hX hU hm hz hcb (It.ok h2) hb2 hl2) fun ex s hs => hfin hs
    · cases h
theorem xCd_ok {C : Calls_ X} {It : Iter} {A : Ann} : ∀ d, CBOK X base c00 O low c0 (xCd X C It A O.length d)
  | 0 => fun c p β tm ob K r R h => by cases h
  | d + 1 => fun c p β tm ob K r R h hR hK => xC1_ok hX hU hm hz (xCd_ok d) c p β tm ob K r R h hR hK
theorem xC_ok {C : Calls_ X} {It : Iter} {A : Ann} (c : Code) (p : Nat) (β : Type) (tm : List (SV X.I)) (ob : OB X) (K : KT X β) (r : β) (R : Post) (h : xC X C It A O.length c p β tm ob K = some r)
    (hR : ∀ ex s s', Wk base c00 (St O) s s' → R ex s' → R ex s) (hK : ∀ ex tm' ob', K ex tm' ob' = some r → R ex (fsS X low c0 tm' ob')) : Wp X.E base c00 (St O) c (fsS X low c0 tm ob) R :=
  xCd_ok hX hU hm hz 4 c p β tm ob K r R h hR hK
end
end Go.Bx

/- Functions of plain values: from the body's run to the contract. (Own text.) -/
namespace Go.Bx
set_option linter.unusedVariables false
set_option linter.unusedSimpArgs false
set_option linter.unusedSectionVars false
set_option linter.unusedVariables false
set_option linter.unusedSectionVars false
set_option linter.unusedSimpArgs false

/-! ### arguments -/
def pm (X : Sys) : SH → SV X.I → Option (List (Dy X.I))
  | .lf (.lf (.i k)), .i k' n => if k' = k then some [.i n] else none
  | .lf (.lf .b), .b x => some [.b x]
  | .lf (.lf .s), .s x => some [.s x]
  | .lf (.lf (.l t)), .l t' xs => some [.l t' xs]
  | .lf (.lf (.c v)), .c v' => if eqC v v' = true then some [] else none
  | .lf (.lf .junk), _ => none
  | .st t, .agg cs => match X.ofC t cs with
    | some x => some [.e t x]
    | none => none
  | _, _ => none
theorem pm_ok {X : Sys} (hX : SysOK X) {h : SH} {x : SV X.I} {ds : List (Dy X.I)} (hp : pm X h x = some ds) : ∃ y, (∀ tl, bH X [] h (ds ++ tl) = some (y, tl)) ∧ av X y = av X x ∧ ds.length = h.ks.length := by
  unfold pm at hp
  split at hp
  · split at hp
    · rename_i he; subst he; cases hp; exact ⟨_, fun tl => rfl, rfl, rfl⟩
    · cases hp
  · cases hp; exact ⟨_, fun tl => rfl, rfl, rfl⟩
  · cases hp; exact ⟨_, fun tl => rfl, rfl, rfl⟩
  · cases hp; exact ⟨_, fun tl => rfl, rfl, rfl⟩
  · split at hp
    · rename_i he; have := eqC_ok he; subst this; cases hp; exact ⟨_, fun tl => rfl, rfl, rfl⟩
    · cases hp
  · cases hp
  · split at hp
    · rename_i z hz; cases hp
      refine ⟨.agg (X.toC _ z), fun tl => rfl, ?_, rfl⟩
      simp only [av, ← hX.encC, hX.of _ _ _ hz]
    · cases hp
  · cases hp
def pmL (X : Sys) : List SH → List (SV X.I) → Option (List (Dy X.I))
  | [], [] => some []
  | h :: hs, x :: xs => match pm X h x, pmL X hs xs with
    | some d, some ds => some (d ++ ds)
    | _, _ => none
  | _, _ => none
theorem pmL_ok {X : Sys} (hX : SysOK X) : ∀ {hs : List SH} {xs : List (SV X.I)} {ds : List (Dy X.I)}, pmL X hs xs = some ds → ∃ ys, (∀ tl, bL (bH X []) hs (ds ++ tl) = some (ys, tl)) ∧ avs X ys = avs X xs ∧ ds.length = (hs.flatMap SH.ks).length
  | [], [], ds, h => by cases h; exact ⟨[], fun tl => rfl, rfl, rfl⟩
  | a :: hs, x :: xs, ds, h => by
    simp only [pmL] at h
    split at h
    · rename_i d ds' h1 h2; cases h
      obtain ⟨y, g1, g2, g3⟩ := pm_ok hX h1
      obtain ⟨ys, k1, k2, k3⟩ := pmL_ok hX h2
      exact ⟨y :: ys, fun tl => by simp only [bL, List.append_assoc, g1, k1], by simp only [avs, g2, k2], by simp [g3, k3]⟩
    · cases h
  | [], x :: xs, ds, h => by simp [pmL] at h
  | a :: hs, [], ds, h => by simp [pmL] at h

/-! ### results -/
def expC {X : Sys} (ob : OB X) : SV X.I → Option (RC X.I)
  | .row o t lo _ => match lo with
    | 0 => match ob[o]? with
      | some (some (.row t' sh true [.xs xs])) => if t' = t then some (.own sh t' xs) else none
      | _ => none
    | _ + 1 => none
  | .c v => if eqC v (.slice none 0 0) = true then none else some (.sv (.c v))
  | .i k n => some (.sv (.i k n))
  | .b x => some (.sv (.b x))
  | .s x => some (.sv (.s x))
  | .l t xs => some (.sv (.l t xs))
  | _ => none
def rowN {X : Sys} (ob : OB X) : SV X.I → Prop
  | .row o t lo n => ∀ t' sh xs, ob[o]? = some (some (SO.row (I := X.I) t' sh true [.xs xs])) → n = xs.length
  | _ => True
theorem exp_v {σ : Store} {c0 : Nat} (k : Option Nat) {v : Value} (h : v ≠ .slice none 0 0) : export1 σ c0 k (.v v) = some (.v v) := by
  unfold export1
  split <;> first | rfl | (rename_i e; cases e; exact absurd rfl h) | (rename_i e; cases e) | (exact absurd rfl h) | simp_all
theorem expC_ok {X : Sys} (hX : SysOK X) {ob : OB X} {x : SV X.I} {y : RC X.I} (h : expC ob x = some y) (hn : rowN ob x) (k : Option Nat) :
    export1 (St (obs X ob)) 0 k (av X x) = some (rcAV X y) ∧ closed (rcAV X y) = true ∧ y.ok = true ∧ rowOf (av X x) = rowIdS x ∧ (∀ o ∈ rowIdS x, ∃ t sh l, ob[o]? = some (some (SO.row (I := X.I) t sh true [.xs l]))) := by
  unfold expC at h
  split at h
  · rename_i o t lo n
    split at h
    · split at h
      · rename_i t' sh xs ho
        split at h
        · rename_i he; subst he; cases h
          have hl := hn _ _ _ ho
          subst hl
          refine ⟨?_, rfl, rfl, rfl, fun o' ho' => ?_⟩
          · have hs : segs X [Seg.xs xs] = xs.map (X.enc t') := by simp [segs, Seg.es]
            cases k <;> (simp only [av, export1, obs_get ho, SO.obj, hs, List.length_map, Nat.zero_add]; rw [if_pos ⟨Nat.zero_le _, Nat.le_refl _, fun _ => trivial⟩]; simp only [if_true, rcAV]; rw [show slice (xs.map (X.enc t')) 0 xs.length = xs.map (X.enc t') by rw [← List.length_map (f := X.enc t'), slice_all]])
          · simp only [rowIdS, List.mem_singleton] at ho'; subst ho'; exact ⟨_, _, _, ho⟩
        · cases h
      · cases h
    · cases h
  · rename_i v
    split at h
    · cases h
    · rename_i hv; cases h
      exact ⟨exp_v k (fun e => hv (by rw [e]; rfl)), rfl, rfl, rfl, fun o' ho' => by simp [rowIdS] at ho'⟩
  · cases h; exact ⟨exp_v k nofun, rfl, rfl, rfl, fun o' ho' => by simp [rowIdS] at ho'⟩
  · cases h; exact ⟨exp_v k nofun, rfl, rfl, rfl, fun o' ho' => by simp [rowIdS] at ho'⟩
  · cases h; exact ⟨exp_v k nofun, rfl, rfl, rfl, fun o' ho' => by simp [rowIdS] at ho'⟩
  · cases h; exact ⟨by cases k <;> rfl, rfl, rfl, rfl, fun o' ho' => by simp [rowIdS] at ho'⟩
  · cases h

def expL {X : Sys} (ob : OB X) : List (SV X.I) → Option (List (RC X.I))
  | [] => some []
  | x :: xs => match expC ob x, expL ob xs with
    | some y, some ys => some (y :: ys)
    | _, _ => none
theorem expL_ok {X : Sys} (hX : SysOK X) {ob : OB X} : ∀ {xs : List (SV X.I)} {ys : List (RC X.I)}, expL ob xs = some ys → (∀ x ∈ xs, rowN ob x) → ∀ (ks : List (Option Nat)), ks.length = xs.length →
    exportL (St (obs X ob)) 0 ks (avs X xs) = some (ys.map (rcAV X)) ∧ (ys.map (rcAV X)).all closed = true ∧ ys.all RC.ok = true ∧ (avs X xs).flatMap rowOf = xs.flatMap rowIdS ∧ (∀ o ∈ xs.flatMap rowIdS, ∃ t sh l, ob[o]? = some (some (SO.row (I := X.I) t sh true [.xs l]))) ∧ xs.all noAggC = true
  | [], ys, h, _, [], _ => by cases h; exact ⟨rfl, rfl, rfl, rfl, (fun o ho => by simp at ho), rfl⟩
  | x :: xs, ys, h, hn, k :: ks, hk => by
    simp only [expL] at h
    split at h
    · rename_i y ys' h1 h2; cases h
      obtain ⟨g1, g2, g3, g4, g5⟩ := expC_ok hX h1 (hn x (by simp)) k
      obtain ⟨k1, k2, k3, k4, k5, k6⟩ := expL_ok hX h2 (fun z hz => hn z (by simp [hz])) ks (by simpa using hk)
      refine ⟨by simp only [avs, exportL, g1, k1, List.map_cons], by simp only [List.map_cons, List.all_cons, g2, k2, Bool.and_self], by simp only [List.all_cons, g3, k3, Bool.and_self], by simp only [avs, List.flatMap_cons, g4, k4], fun o ho => ?_, ?_⟩
      · simp only [List.flatMap_cons, List.mem_append] at ho
        exact ho.elim (g5 o) (k5 o)
      · simp only [List.all_cons, k6, Bool.and_true]
        cases x <;> first | rfl | (simp [expC] at h1; done)
    · cases h
  | [], _, _, _, _ :: _, hk => by simp at hk
  | _ :: _, _, _, _, [], hk => by simp at hk
def expV (X : Sys) (ob : OB X) (t : TypeId) (x : SV X.I) : Option (RV X.I) :=
  match X.E.T t with
  | some r => match x with
    | .agg cs => if (r.lv.length == cs.length) = true then match expL ob cs with
      | some ys => some (ys, true)
      | none => none else none
    | .tup _ => none
    | x => if (r.lv.length == 1) = true then match expC ob x with
      | some y => some ([y], false)
      | none => none else none
  | none => none
def rowNV {X : Sys} (ob : OB X) : SV X.I → Prop
  | .agg cs => ∀ x ∈ cs, rowN ob x
  | x => rowN ob x
def rowsS {X : Sys} (x : SV X.I) : List Nat := (cellsS x).flatMap rowIdS
theorem expV_ok {X : Sys} (hX : SysOK X) {ob : OB X} {t : TypeId} {x : SV X.I} {v : RV X.I} (h : expV X ob t x = some v) (hn : rowNV ob x) :
    exportV X.E.T (St (obs X ob)) 0 t (av X x) = some (rvAV X v) ∧ (cells (rvAV X v)).all closed = true ∧ rvOK v = true ∧ (cells (av X x)).flatMap rowOf = rowsS x ∧ (∀ o ∈ rowsS x, ∃ t sh l, ob[o]? = some (some (SO.row (I := X.I) t sh true [.xs l]))) ∧ noAgg x = true := by
  unfold expV at h
  split at h
  · rename_i r hr
    split at h
    · rename_i cs
      split at h
      · rename_i hl
        split at h
        · rename_i ys hy; cases h
          obtain ⟨g1, g2, g3, g4, g5, g6⟩ := expL_ok hX hy hn r.lv (by simpa using hl)
          exact ⟨by simp only [av, exportV, hr, g1]; rfl, g2, by simp [rvOK, g3], g4, g5, g6⟩
        · cases h
      · cases h
    · cases h
    · rename_i hn1 hn2
      split at h
      · rename_i hl
        split at h
        · rename_i y hy; cases h
          have hlv : ∃ k, r.lv = [k] := by
            match h3 : r.lv, hl with
            | [k], _ => exact ⟨k, rfl⟩
          obtain ⟨k, hk⟩ := hlv
          have hn' : rowN ob x := by cases x <;> first | exact hn | exact absurd rfl (hn1 _)
          obtain ⟨g1, g2, g3, g4, g5⟩ := expC_ok hX hy hn' k
          have hone : rvAV X ([y], false) = rcAV X y := rfl
          have hna : nAgg (rcAV X y) = true := (imp1_ok (ob := []) g3).2
          have hcx : cellsS x = [x] := by cases x <;> first | rfl | exact absurd rfl (hn1 _)
          refine ⟨?_, ?_, by simp [rvOK, g3], ?_, ?_, ?_⟩
          · rw [hone, ← g1]
            unfold exportV
            rw [hr]
            cases x <;> first | exact absurd rfl (hn1 _) | exact absurd rfl (hn2 _) | (simp only [av, hk]; done)
          · rw [hone]
            cases hz : rcAV X y <;> rw [hz] at hna g2 <;> first | (simp only [cells, List.all_cons, List.all_nil, Bool.and_true]; exact g2) | cases hna
          · rw [← avs_cells, hcx]
            simp only [avs, List.flatMap_cons, List.flatMap_nil, List.append_nil, rowsS, hcx, g4]
          · simp only [rowsS, hcx, List.flatMap_cons, List.flatMap_nil, List.append_nil]; exact g5
          · cases x <;> first | rfl | exact absurd rfl (hn1 _)
        · cases h
      · cases h
  · cases h
def expVs (X : Sys) (ob : OB X) : List TypeId → List (SV X.I) → Option (List (RV X.I))
  | [], [] => some []
  | t :: ts, x :: xs => match expV X ob t x, expVs X ob ts xs with
    | some y, some ys => some (y :: ys)
    | _, _ => none
  | _, _ => none
theorem expVs_ok {X : Sys} (hX : SysOK X) {ob : OB X} : ∀ {ts : List TypeId} {xs : List (SV X.I)} {vs : List (RV X.I)}, expVs X ob ts xs = some vs → (∀ x ∈ xs, rowNV ob x) →
    exportVs X.E.T (St (obs X ob)) 0 ts (avs X xs) = some (vs.map (rvAV X)) ∧ ((vs.map (rvAV X)).all fun y => (cells y).all closed) = true ∧ vs.all rvOK = true ∧ rowsOf (avs X xs) = xs.flatMap rowsS ∧ (∀ o ∈ xs.flatMap rowsS, ∃ t sh l, ob[o]? = some (some (SO.row (I := X.I) t sh true [.xs l])))
  | [], [], vs, h, _ => by cases h; exact ⟨rfl, rfl, rfl, rfl, fun o ho => by simp at ho⟩
  | t :: ts, x :: xs, vs, h, hn => by
    simp only [expVs] at h
    split at h
    · rename_i y ys h1 h2; cases h
      obtain ⟨g1, g2, g3, g4, g5, _⟩ := expV_ok hX h1 (hn x (by simp))
      obtain ⟨k1, k2, k3, k4, k5⟩ := expVs_ok hX h2 (fun z hz => hn z (by simp [hz]))
      refine ⟨by simp only [avs, exportVs, g1, k1, List.map_cons], by simp only [List.map_cons, List.all_cons, g2, k2, Bool.and_self], by simp only [List.all_cons, g3, k3, Bool.and_self], ?_, fun o ho => ?_⟩
      · simp only [rowsOf, avs, List.flatMap_cons] at k4 ⊢
        rw [g4, k4]
      · simp only [List.flatMap_cons, List.mem_append] at ho
        exact ho.elim (g5 o) (k5 o)
    · cases h
  | [], _ :: _, vs, h, _ => by simp [expVs] at h
  | _ :: _, [], vs, h, _ => by simp [expVs] at h

/-! ### what a form says of rows -/
section
variable {X : Sys}
theorem b0_row {ln : List Nat} {h : SH0} {ds tl : List (Dy X.I)} {x : SV X.I} (hb : b0 ln h ds = some (x, tl)) : ∀ o t lo n, x = .row o t lo n → n = ln.getD o 0 := by
  intro o t lo n hx
  subst hx
  unfold b0 at hb
  split at hb <;> simp only [Option.some.injEq, Prod.mk.injEq, reduceCtorEq, false_and, SV.row.injEq] at hb
  obtain ⟨⟨rfl, _, _, rfl⟩, _⟩ := hb; rfl
theorem b1_row {ln : List Nat} {h : SH1} {ds tl : List (Dy X.I)} {x : SV X.I} (hb : b1 ln h ds = some (x, tl)) : ∀ o t lo n, x = .row o t lo n → n = ln.getD o 0 := by
  unfold b1 at hb
  split at hb
  · exact b0_row hb
  · split at hb
    · split at hb
      · cases hb; intro o t lo n hx; cases hx
      · cases hb
    · cases hb
theorem bL_mem {α : Type} {f : α → List (Dy X.I) → Option (SV X.I × List (Dy X.I))} {Q : SV X.I → Prop} (hf : ∀ {h ds x tl}, f h ds = some (x, tl) → Q x) : ∀ {hs : List α} {ds : List (Dy X.I)} {xs : List (SV X.I)} {tl : List (Dy X.I)}, bL f hs ds = some (xs, tl) → ∀ x ∈ xs, Q x
  | [], ds, xs, tl, h => by cases h; intro x hx; cases hx
  | a :: hs, ds, xs, tl, h => by
    simp only [bL] at h
    split at h
    · rename_i y ds1 h1
      split at h
      · rename_i ys ds2 h2; cases h
        intro x hx
        rcases List.mem_cons.1 hx with rfl | hx
        · exact hf h1
        · exact bL_mem hf h2 x hx
      · cases h
    · cases h
theorem bObs_len {ln : List Nat} : ∀ {os : List SOH} {bs rs : List (Dy X.I)} {ob : OB X}, bObs ln os bs rs = some ob → ∀ (o : Nat) t sh xs, ob[o]? = some (some (SO.row (I := X.I) t sh true [.xs xs])) → (lens os rs).getD o 0 = xs.length
  | [], bs, rs, ob, h => by cases h; intro o t sh xs ho; simp at ho
  | .dead :: os, bs, rs, ob, h => by
    simp only [bObs, Option.map_eq_some_iff] at h
    obtain ⟨ob', h1, rfl⟩ := h
    intro o t sh xs ho
    cases o with
    | zero => simp at ho
    | succ o => simpa [lens] using bObs_len h1 o t sh xs (by simpa using ho)
  | .box sz sh cs :: os, bs, rs, ob, h => by
    simp only [bObs] at h
    split at h
    · rw [Option.map_eq_some_iff] at h
      obtain ⟨ob', h1, rfl⟩ := h
      intro o t sh xs ho
      cases o with
      | zero => simp at ho
      | succ o => simpa [lens] using bObs_len h1 o t sh xs (by simpa using ho)
    · cases h
  | .row t sh _ :: os, bs, [], ob, h => by simp [bObs] at h
  | .row t sh _ :: os, bs, d :: rs, ob, h => by
    cases d <;> simp only [bObs, reduceCtorEq] at h
    rename_i t' xs'
    rw [Option.map_eq_some_iff] at h
    obtain ⟨ob', h1, rfl⟩ := h
    intro o t2 sh2 xs ho
    cases o with
    | zero =>
      simp only [List.getElem?_cons_zero, Option.some.injEq, SO.row.injEq, true_and] at ho
      obtain ⟨rfl, _, h3⟩ := ho
      have h4 := eq_of_heq h3
      simp only [List.cons.injEq, Seg.xs.injEq, and_true] at h4
      subst h4; rfl
    | succ o => simpa [lens] using bObs_len h1 o t2 sh2 xs (by simpa using ho)
theorem build_rows (hX : SysOK X) {S : Shp} {ds : List (Dy X.I)} {tm : List (SV X.I)} {ob : OB X} (h : build X S ds = some (tm, ob)) : (∀ x ∈ tm, rowNV ob x) ∧ ∀ (o : Nat) sz sh cs, ob[o]? = some (some (SO.box sz sh cs)) → ∀ x ∈ cs, rowN ob x := by
  unfold build bState at h
  split at h
  · rename_i tm' tl ob' h1 h2; cases h
    have hlen := bObs_len h2
    have key : ∀ {x : SV X.I}, (∀ o t lo n, x = .row o t lo n → n = (lens S.ob (ds.drop ((S.tm.flatMap SH.ks).length + (S.ob.flatMap SOH.bks).length))).getD o 0) → rowN ob x := fun {x} hx => by
      cases x <;> first | trivial | skip
      rename_i o t lo n
      intro t' sh xs ho
      rw [hx o t lo n rfl]; exact hlen o t' sh xs ho
    refine ⟨bL_mem (Q := rowNV ob) (fun {h ds x tl} hb => ?_) h1, ?_⟩
    · unfold bH at hb
      split at hb
      · have := b1_row hb
        have hk := key this
        cases x <;> first | exact hk | skip
        rename_i cs
        rename_i h' ds'
        exfalso
        unfold b1 at hb
        split at hb
        · unfold b0 at hb
          split at hb <;> simp at hb
        · split at hb
          · split at hb <;> simp at hb
          · cases hb
      · split at hb
        · rename_i xs ds1 hl; cases hb
          intro x hx
          exact key (bL_mem (Q := fun x => ∀ o t lo n, x = .row o t lo n → n = _) (fun hb => b1_row hb) hl x hx)
        · cases hb
      · cases hb
        intro x hx
        refine key fun o t lo n hr => ?_
        subst hr
        rename_i t' z
        have h1 := hX.encPl t' z
        rw [hX.encC, all_plS] at h1
        have := List.all_eq_true.1 h1 _ hx
        cases this
      · cases hb
    · intro o sz sh cs ho x hx
      have hbox : ∀ {os : List SOH} {bs rs : List (Dy X.I)} {obn : OB X} {ln : List Nat}, bObs ln os bs rs = some obn → ∀ (o : Nat) sz sh cs, obn[o]? = some (some (SO.box sz sh cs)) → ∀ x ∈ cs, ∀ o t lo n, x = .row o t lo n → n = ln.getD o 0 := by
        intro os
        induction os with
        | nil => intro bs rs obn ln h; cases h; intro o sz sh cs ho; simp at ho
        | cons a os ih =>
          intro bs rs obn ln h o sz sh cs ho
          cases a with
          | dead =>
            simp only [bObs, Option.map_eq_some_iff] at h
            obtain ⟨ob', h1, rfl⟩ := h
            cases o with
            | zero => simp at ho
            | succ o => exact ih h1 o sz sh cs (by simpa using ho)
          | box sz' sh' cs' =>
            simp only [bObs] at h
            split at h
            · rename_i xs bs1 hl
              rw [Option.map_eq_some_iff] at h
              obtain ⟨ob', h1, rfl⟩ := h
              cases o with
              | zero =>
                simp at ho
                obtain ⟨_, _, rfl⟩ := ho
                exact fun x hx => bL_mem (Q := fun x => ∀ o t lo n, x = .row o t lo n → n = ln.getD o 0) (fun hb => b1_row hb) hl x hx
              | succ o => exact ih h1 o sz sh cs (by simpa using ho)
            · cases h
          | row t' sh' =>
            cases rs with
            | nil => simp [bObs] at h
            | cons d rs =>
              cases d <;> simp only [bObs, reduceCtorEq] at h
              rw [Option.map_eq_some_iff] at h
              obtain ⟨ob', h1, rfl⟩ := h
              cases o with
              | zero => simp at ho
              | succ o => exact ih h1 o sz sh cs (by simpa using ho)
      exact key (hbox h2 o sz sh cs ho x hx)
  · cases h
end
end Go.Bx

/- Functions of plain values: their contracts. (Own text.) -/
namespace Go.Bx
set_option linter.unusedVariables false
set_option linter.unusedSimpArgs false
set_option linter.unusedSectionVars false
set_option linter.unusedVariables false
set_option linter.unusedSectionVars false
set_option linter.unusedSimpArgs false

/-! ### the results of a state -/
def resS {X : Sys} (ob : OB X) (tm : List (SV X.I)) : ResultVar → Option (SV X.I)
  | .tmp t => some (tm.getD t .junk)
  | .cell a t => xLoad X ob t (tm.getD a .junk) fun y _ => if (((X.E.T t).map fun r => r.desc.isAgg) == some true || noAggC y) = true then some y else none
def mapO' {α γ : Type} (f : α → Option γ) : List α → Option (List γ)
  | [] => some []
  | x :: xs => match f x, mapO' f xs with
    | some y, some ys => some (y :: ys)
    | _, _ => none
def nodB : List Nat → Bool
  | [] => true
  | x :: xs => (!xs.elem x) && nodB xs
theorem nodB_ok : ∀ {l : List Nat}, nodB l = true → l.Nodup
  | [], _ => List.nodup_nil
  | x :: xs, h => by
    simp only [nodB, Bool.and_eq_true, Bool.not_eq_true', List.elem_eq_mem, decide_eq_false_iff_not] at h
    exact List.nodup_cons.2 ⟨h.1, nodB_ok h.2⟩
def resP (X : Sys) (fn : Func) (F : Shp) (w : TT X.I F.ks) : Option (List (RV X.I)) :=
  match build X F (ofT F.ks w) with
  | some (tm, ob) => match mapO' (resS ob tm) fn.results.toList with
    | some xs => if nodB (xs.flatMap rowsS) = true then expVs X ob fn.resultTypes.toList xs else none
    | none => none
  | none => none
section
variable {X : Sys}
theorem row_cells {ob : OB X} {cs : List (SV X.I)} {ag : Bool} {y : SV X.I} (h : ofCellsS ag cs = some y) (hc : ∀ x ∈ cs, rowN ob x) (hn : ag = true ∨ noAggC y = true) : rowNV ob y := by
  unfold ofCellsS at h
  split at h
  · cases h; exact hc
  · rename_i ha
    have hn := hn.resolve_left ha
    split at h
    · cases h
      have := hc y (by simp)
      cases y <;> first | exact this | trivial | cases hn
    · cases h
theorem load_rows {ob : OB X} (hX : SysOK X) (hb : ∀ (o : Nat) sz sh cs, ob[o]? = some (some (SO.box sz sh cs)) → ∀ x ∈ cs, rowN ob x) {t : TypeId} {a y : SV X.I} (h : (xLoad X ob t a fun y _ => if (((X.E.T t).map fun r => r.desc.isAgg) == some true || noAggC y) = true then some y else none) = some y) : rowNV ob y := by
  have key : ∀ {r : TRow} {z : SV X.I}, X.E.T t = some r → (if (((X.E.T t).map fun r => r.desc.isAgg) == some true || noAggC z) = true then some z else none) = some y → z = y ∧ (r.desc.isAgg = true ∨ noAggC y = true) := fun {r z} hr h => by
    rw [hr] at h
    split at h
    · rename_i hc
      cases h
      simp only [Option.map_some, Bool.or_eq_true, beq_iff_eq, Option.some.injEq] at hc
      exact ⟨rfl, hc⟩
    · cases h
  unfold xLoad at h
  split at h
  · rename_i r o p off hr
    split at h
    · rename_i sz sh cs ho
      split at h
      · split at h
        · split at h
          · rename_i y' hy
            obtain ⟨rfl, hn⟩ := key hr h
            exact row_cells hy (fun x hx => hb _ _ _ _ ho x (List.mem_of_mem_drop (List.mem_of_mem_take hx))) hn
          · cases h
        · cases h
      · cases h
    · obtain ⟨e, _, h⟩ := bind_some' h
      split at h
      · split at h
        · rename_i y' hy
          obtain ⟨rfl, hn⟩ := key hr h
          refine row_cells hy (fun x hx => ?_) hn
          have hx := List.mem_of_mem_drop (List.mem_of_mem_take hx)
          have h1 := hX.encPl _ e
          rw [hX.encC, all_plS] at h1
          have := List.all_eq_true.1 h1 _ hx
          cases x <;> first | trivial | cases this
        · cases h
      · cases h
    · cases h
  · cases h
theorem resS_ok (hX : SysOK X) {ob : OB X} {tm : List (SV X.I)} : ∀ {rs : List ResultVar} {xs : List (SV X.I)}, mapO' (resS ob tm) rs = some xs → mapO (resAV X.E.T (avs X tm) (St (obs X ob))) rs = some (avs X xs)
  | [], xs, h => by cases h; rfl
  | a :: rs, xs, h => by
    simp only [mapO'] at h
    split at h
    · rename_i y ys h1 h2; cases h
      have k1 := resS_ok hX h2
      cases a with
      | cell a t =>
        simp only [resS] at h1
        obtain ⟨y', x, id, p, off, g1, _, _, g2⟩ := xLoad_ok hX h1
        split at g1
        · cases g1
          simp only [mapO, resAV, k1, avs, avs_getD, g2]; rfl
        · cases g1
      | tmp t =>
        simp only [resS, Option.some.injEq] at h1
        subst h1
        simp only [mapO, resAV, k1, avs, avs_getD]
    · cases h
theorem resS_rows (hX : SysOK X) {ob : OB X} {tm : List (SV X.I)} (hb : (∀ x ∈ tm, rowNV ob x) ∧ ∀ (o : Nat) sz sh cs, ob[o]? = some (some (SO.box sz sh cs)) → ∀ x ∈ cs, rowN ob x) : ∀ {rs : List ResultVar} {xs : List (SV X.I)}, mapO' (resS ob tm) rs = some xs → ∀ x ∈ xs, rowNV ob x
  | [], xs, h => by cases h; intro x hx; cases hx
  | a :: rs, xs, h => by
    simp only [mapO'] at h
    split at h
    · rename_i y ys h1 h2; cases h
      intro x hx
      rcases List.mem_cons.1 hx with rfl | hx
      · cases a with
        | cell a t => exact load_rows hX hb.2 h1
        | tmp t =>
          simp only [resS, Option.some.injEq] at h1
          subst h1
          rw [List.getD_eq_getElem?_getD]
          cases hg : tm[t]? with
          | none => trivial
          | some z => exact hb.1 z (List.mem_of_getElem? hg)
      · exact resS_rows hX hb h2 x hx
    · cases h
theorem inner_nil {ob : OB X} {xs : List (SV X.I)} (h : ∀ o ∈ xs.flatMap rowsS, ∃ t sh l, ob[o]? = some (some (SO.row (I := X.I) t sh true [.xs l]))) : ((avs X xs).flatMap cells).flatMap (innerIds (St (obs X ob))) = [] := by
  rw [List.flatMap_eq_nil_iff]
  intro c hc
  rw [List.mem_flatMap] at hc
  obtain ⟨y, hy, hc⟩ := hc
  rw [avs_map, List.mem_map] at hy
  obtain ⟨x, hx, rfl⟩ := hy
  rw [← avs_cells, avs_map, List.mem_map] at hc
  obtain ⟨z, hz, rfl⟩ := hc
  cases z <;> first | rfl | skip
  all_goals
    rename_i o t lo n
    obtain ⟨t', sh, l, ho⟩ := h o (List.mem_flatMap.2 ⟨x, hx, List.mem_flatMap.2 ⟨_, hz, by simp [rowIdS]⟩⟩)
    simp only [av, innerIds, obs_get ho, SO.obj, if_true]
theorem resOK_of {vs : List (RV X.I)} (h : vs.all rvOK = true) (hc : ((vs.map (rvAV X)).all fun y => (cells y).all closed) = true) : resOK (rsAV X vs) = true := by
  have ht : ∀ v ∈ vs, ∀ us, rvAV X v ≠ .tup us := fun v hv => (impV_ok (ob := []) (List.all_eq_true.1 h v hv)).2
  have key : ∀ l : List (RV X.I), (∀ v ∈ l, ∀ us, rvAV X v ≠ .tup us) → ((l.map (rvAV X)).all fun y => (cells y).all closed) = true → resOK (.tup (l.map (rvAV X))) = true := fun l h1 h2 => by
    simp only [resOK, List.all_eq_true, Bool.and_eq_true] at h2 ⊢
    intro y hy
    refine ⟨?_, h2 y hy⟩
    obtain ⟨v, hv, rfl⟩ := List.mem_map.1 hy
    split
    · rename_i us he; exact absurd he (h1 v hv us)
    · rfl
  match vs, h, hc, ht with
  | [], _, _, _ => rfl
  | [x], h, hc, ht =>
    simp only [rsAV, List.map_cons, List.map_nil, one, List.all_cons, List.all_nil, Bool.and_true] at hc ⊢
    unfold resOK
    split
    · rename_i us he; exact absurd he (ht x (by simp) us)
    · exact hc
  | x :: y :: l, h, hc, ht => exact key _ ht hc
theorem mode_none : Mode none 0 := fun md => by simp only [cut_zero, omin_nn]
theorem rt_of (hX : SysOK X) {fn : Func} {F : Shp} {w : TT X.I F.ks} {vs : List (RV X.I)} {tm : List (SV X.I)} {ob : OB X} (hb : build X F (ofT F.ks w) = some (tm, ob)) (hr : resP X fn F w = some vs) :
    evReturn X.E.T nilStore fn (fsS X none 0 tm ob) = some (rsAV X vs, nilStore, none) := by
  unfold resP at hr
  rw [hb] at hr
  simp only at hr
  split at hr
  · rename_i xs hxs
    split at hr
    · rename_i hnd
      have k1 := resS_ok hX hxs
      obtain ⟨g1, g2, g3, g4, g5⟩ := expVs_ok hX hr (resS_rows hX (build_rows hX hb) hxs)
      have hin := inner_nil g5
      have hsh : retShare X.E.T fn (fsS X none 0 tm ob) = fsS X none 0 tm ob := by
        simp only [retShare, fsS, k1, hin, shareAll_nil, freshL_nil, cut_none, omin_nn]
      unfold evReturn
      rw [hsh]
      unfold evReturn0
      simp only [fsS, k1]
      rw [show nilStore.clock = 0 from rfl, g1]
      simp only [g4]
      rw [if_pos ⟨nodB_ok hnd, .inr g2⟩]
      rfl
    · cases hr
  · cases hr
theorem res_ok (hX : SysOK X) {fn : Func} {F : Shp} {w : TT X.I F.ks} {vs : List (RV X.I)} (hr : resP X fn F w = some vs) : resOK (rsAV X vs) = true ∧ vs.all rvOK = true := by
  unfold resP at hr
  split at hr
  · rename_i tm ob hb
    split at hr
    · rename_i xs hxs
      split at hr
      · obtain ⟨g1, g2, g3, g4, g5⟩ := expVs_ok hX hr (resS_rows hX (build_rows hX hb) hxs)
        exact ⟨resOK_of g3 g2, g3⟩
      · cases hr
    · cases hr
  · cases hr
end

/-! ### a function of plain values -/
/-- How a function is told: its arguments' forms, its body's, and the form at its end. -/
structure Fm where
  args : List SH
  A : Ann
  fin : Shp
abbrev Fm.ks (f : Fm) : List PK := f.args.flatMap SH.ks
def startS (X : Sys) (fn : Func) (f : Fm) (v : TT X.I f.ks) : Option (List (SV X.I)) :=
  match bL (bH X []) f.args (ofT f.ks v) with
  | some (ys, []) => some (ys ++ List.replicate (fn.ntmps - ys.length) (.c undef))
  | _ => none
/-- What the function computes. -/
def xPure (X : Sys) (C : Calls_ X) (It : Iter) (f : Fm) (fn : Func) (body : Code) (v : TT X.I f.ks) : Option (Pn (TT X.I f.fin.ks)) :=
  match startS X fn f v with
  | some tm => xC X C It f.A 0 body 1 (Pn (TT X.I f.fin.ks)) tm [] fun ex tm ob => match ex with
    | .pan V => some (.pan V)
    | .ret => goTo X 0 f.fin tm ob fun w => some (.ok w)
    | .nrm => goTo X 0 f.fin tm ob fun w => some (.ok w)
    | _ => none
  | none => none
section
variable {X : Sys}
theorem pl_closed {x : AV} (h : pl x = true) : closed x = true := by cases x <;> simp_all [pl, closed]
theorem pm_closed (hX : SysOK X) {h : SH} {x : SV X.I} {ds : List (Dy X.I)} (hp : pm X h x = some ds) : (cells (av X x)).all closed = true := by
  unfold pm at hp
  split at hp <;> first | (cases hp; done) | (simp only [av, cells, List.all_cons, List.all_nil, closed, Bool.and_true]; done) | skip
  split at hp
  · rename_i cs z hz
    simp only [av, cells, hX.of _ _ _ hz]
    rw [List.all_eq_true]
    exact fun y hy => pl_closed (List.all_eq_true.1 (hX.encPl _ z) y hy)
  · cases hp
theorem pmL_closed (hX : SysOK X) : ∀ {hs : List SH} {xs : List (SV X.I)} {ds : List (Dy X.I)}, pmL X hs xs = some ds → ((avs X xs).all fun x => (cells x).all closed) = true
  | [], [], ds, h => rfl
  | a :: hs, x :: xs, ds, h => by
    simp only [pmL] at h
    split at h
    · rename_i d ds' h1 h2
      simp only [avs, List.all_cons, pm_closed hX h1, pmL_closed hX h2, Bool.and_self]
    · cases h
  | [], x :: xs, ds, h => by simp [pmL] at h
  | a :: hs, [], ds, h => by simp [pmL] at h
/-- The arguments of a call as one tuple. -/
def argS (X : Sys) (f : Fm) (xs : List (SV X.I)) : Option (TT X.I f.ks) := match pmL X f.args xs with
  | some ds => toT f.ks ds
  | none => none
theorem start_ok (hX : SysOK X) {f : Fm} {fn : Func} {xs : List (SV X.I)} {v : TT X.I f.ks} {tm : List (SV X.I)} (ha : argS X f xs = some v) (hs : startS X fn f v = some tm) :
    avs X tm = avs X xs ++ List.replicate (fn.ntmps - (avs X xs).length) (.v undef) ∧ ((avs X xs).all fun x => (cells x).all closed) = true := by
  unfold argS at ha
  split at ha
  · rename_i ds hds
    obtain ⟨ys, h1, h2, h3⟩ := pmL_ok hX hds
    have h1 := h1 []
    rw [List.append_nil] at h1
    unfold startS at hs
    rw [toT_ofT ha, h1] at hs
    simp only [Option.some.injEq] at hs
    subst hs
    have hl : ys.length = (avs X xs).length := by rw [← h2, avs_length]
    refine ⟨?_, pmL_closed hX hds⟩
    rw [avs_append, h2, hl]
    congr 1
    rw [avs_map, List.map_replicate]; rfl
  · cases ha
theorem clos_end {base : Nat} {c00 : Ctx} {E : Env} {fn : Func} {r : AV} : ∀ (ex : Ex) s s', Wk base c00 nilStore s s' → ((ex = .ret ∨ ex = .nrm) ∧ Rt E base c00 fn r s') → ((ex = .ret ∨ ex = .nrm) ∧ Rt E base c00 fn r s) :=
  fun ex s s' hw h => ⟨h.1, h.2.choose, hw.trans h.2.choose_spec.1, h.2.choose_spec.2⟩
theorem nil_eq : nilStore = St [] := rfl
/-- A function keeps what it computes. -/
theorem pure_ok (hX : SysOK X) {C : Calls_ X} {It : Iter} {f : Fm} {fid : FuncId} {fn : Func} {body : Code} (hf : X.E.P.funcs[fid]? = some fn) (hb : fn.body = some body) (hname : fn.name ≠ "runtime.NumGoroutine")
    {xs : List (SV X.I)} {v : TT X.I f.ks} (ha : argS X f xs = some v) {r : Pn (TT X.I f.fin.ks)} (h : xPure X C It f fn body v = some r) :
    match r with
    | .ok w => ∀ vs, resP X fn f.fin w = some vs → PureOK X.E fid (avs X xs) (rsAV X vs)
    | .pan V => PureP X.E fid (avs X xs) V := by
  unfold xPure at h
  split at h
  · rename_i tm hs
    obtain ⟨h1, h2⟩ := start_ok hX ha hs
    cases r with
    | ok w =>
      intro vs hvs
      refine pure_of_wp hX.tab hX.mix hf hb rfl hname h2 (res_ok hX hvs).1 (fun g => by rw [hX.gl]; rfl) (fun base c00 hU => ?_) hX.np
      rw [← h1]
      exact xC_ok hX (O := []) hU mode_none (.inl rfl) body 1 _ tm [] _ _ (fun ex s => (ex = .ret ∨ ex = .nrm) ∧ Rt X.E base c00 fn (rsAV X vs) s) h clos_end fun ex tm' ob' hk => by
        cases ex <;> simp only [reduceCtorEq, Option.some.injEq] at hk
        · obtain ⟨v', tm2, ob2, g1, g2, g3⟩ := goTo_ok hX (O := []) hU mode_none (.inl rfl) hk
          cases g1
          exact ⟨.inr rfl, _, g3, rt_of hX g2 hvs⟩
        · obtain ⟨v', tm2, ob2, g1, g2, g3⟩ := goTo_ok hX (O := []) hU mode_none (.inl rfl) hk
          cases g1
          exact ⟨.inl rfl, _, g3, rt_of hX g2 hvs⟩
    | pan V =>
      refine pureP_of_wp hX.tab hX.mix hf hb rfl hname h2 (fun g => by rw [hX.gl]; rfl) (fun base c00 hU => ?_) hX.np
      rw [← h1]
      exact xC_ok hX (O := []) hU mode_none (.inl rfl) body 1 _ tm [] _ _ (fun ex s => ex = .pan V) h (fun ex s s' hw h => h) fun ex tm' ob' hk => by
        cases ex <;> simp only [reduceCtorEq, Option.some.injEq] at hk
        · obtain ⟨v', tm2, ob2, g1, g2, g3⟩ := goTo_ok hX (O := []) hU mode_none (.inl rfl) hk
          cases g1
        · obtain ⟨v', tm2, ob2, g1, g2, g3⟩ := goTo_ok hX (O := []) hU mode_none (.inl rfl) hk
          cases g1
        · cases hk; rfl
  · cases h

/-- What a function of this form is told to compute. -/
def Sound (X : Sys) (f : Fm) (fid : FuncId) (fn : Func) (F : TT X.I f.ks → Option (Pn (TT X.I f.fin.ks))) : Prop :=
  ∀ xs v r, argS X f xs = some v → F v = some r → match r with
    | .ok w => ∀ vs, resP X fn f.fin w = some vs → PureOK X.E fid (avs X xs) (rsAV X vs)
    | .pan V => PureP X.E fid (avs X xs) V
abbrev Snd (X : Sys) (f : Fm) (fid : FuncId) (fn : Func) := { F : TT X.I f.ks → Option (Pn (TT X.I f.fin.ks)) // Sound X f fid fn F }
/-- A contract that is shown by hand. -/
theorem sound_hand {X : Sys} (hX : SysOK X) {f : Fm} {fid : FuncId} {fn : Func} {F : TT X.I f.ks → Option (Pn (TT X.I f.fin.ks))} (h : ∀ v r, F v = some r → ∀ ys, bL (bH X []) f.args (ofT f.ks v) = some (ys, []) → match r with
    | .ok w => ∀ vs, resP X fn f.fin w = some vs → PureOK X.E fid (avs X ys) (rsAV X vs)
    | .pan V => PureP X.E fid (avs X ys) V) : Sound X f fid fn F := by
  intro xs v r ha hF
  unfold argS at ha
  split at ha
  · rename_i ds hds
    obtain ⟨ys, h1, h2, _⟩ := pmL_ok hX hds
    have h1 := h1 []
    rw [List.append_nil, ← toT_ofT ha] at h1
    have := h v r hF ys h1
    rw [h2] at this
    exact this
  · cases ha
def runP (X : Sys) (C : Calls_ X) (It : Iter) (f : Fm) (fn : Func) (v : TT X.I f.ks) : Option (Pn (TT X.I f.fin.ks)) := match fn.body with
  | some b => xPure X C It f fn b v
  | none => none
/-- By its body. -/
def Snd.run (hX : SysOK X) (C : Calls_ X) (It : Iter) (f : Fm) (fid : FuncId) {fn : Func} (hf : X.E.P.funcs[fid]? = some fn) (hname : fn.name ≠ "runtime.NumGoroutine") : Snd X f fid fn :=
  ⟨runP X C It f fn, fun xs v r ha h => by
    unfold runP at h
    split at h
    · rename_i b hb
      have := pure_ok hX hf hb hname ha h
      cases r <;> exact this
    · cases h⟩
def Snd.none (f : Fm) (fid : FuncId) {fn : Func} : Snd X f fid fn := ⟨fun _ => .none, fun xs v r ha h => by cases h⟩
/-- With turns told by the arguments. -/
def Snd.fuel {f : Fm} {fid : FuncId} {fn : Func} (n : TT X.I f.ks → Nat) (G : Nat → Snd X f fid fn) : Snd X f fid fn := ⟨fun v => (G (n v)).1 v, fun xs v r ha h => (G (n v)).2 xs v r ha h⟩
/-- A callee's row. -/
def Snd.row (hX : SysOK X) {f : Fm} {fid : FuncId} {fn : Func} (G : Snd X f fid fn) (hres : ∀ w, (resP X fn f.fin w).isSome = true) : PCall X fid where
  A := TT X.I f.ks
  R := TT X.I f.fin.ks
  ps := fn.params.toList
  arg := argS X f
  bind := fun v K Kp => G.1 v >>= fun o => match o with
    | .ok w => K w
    | .pan V => Kp V
  res := fun w => (resP X fn f.fin w).getD []
  ok := fun args a K Kp r ha h => by
    obtain ⟨o, h1, h2⟩ := bind_some' h
    have := G.2 _ _ _ ha h1
    cases o with
    | ok w =>
      obtain ⟨vs, hvs⟩ := Option.isSome_iff_exists.1 (hres w)
      have he : (resP X fn f.fin w).getD [] = vs := by rw [hvs]; rfl
      exact .inl ⟨w, h2, by rw [he]; exact this _ hvs, by rw [he]; exact (res_ok hX hvs).2⟩
    | pan V => exact .inr ⟨V, h2, this⟩
end
/-- Some slots of a frame. -/
def spr (n : Nat) (l : List (Nat × SH)) : List SH := (List.range n).map fun i => (look i l).getD (.lf (.lf .junk))
end Go.Bx

/- Functions that are handed objects. (Own text.) -/
namespace Go.Bx
set_option linter.unusedVariables false
set_option linter.unusedSimpArgs false
set_option linter.unusedSectionVars false
set_option linter.unusedVariables false
set_option linter.unusedSectionVars false
set_option linter.unusedSimpArgs false
variable {β : Type}

/-! ### what is handed, as it is -/
def atI (ι : List Nat) (a o : Nat) : Bool := ι[a]? == some o
theorem atI_ok {ι : List Nat} {a o : Nat} (h : atI ι a o = true) : ixg ι a = o := by
  simp only [atI, beq_iff_eq] at h
  simp [ixg, List.getD_eq_getElem?_getD, h]
def e0 (X : Sys) (ι ln : List Nat) : SH0 → SV X.I → (List (Dy X.I) → Option β) → Option β
  | .c v, x, K => match x with
    | .c v' => if eqC v v' = true then K [] else none
    | _ => none
  | .i k, x, K => match x with
    | .i k' n => if k' = k then K [.i n] else none
    | _ => none
  | .b, x, K => match x with
    | .b z => K [.b z]
    | _ => none
  | .s, x, K => match x with
    | .s z => K [.s z]
    | _ => none
  | .l t, x, K => match x with
    | .l t' xs => if t' = t then K [.l t' xs] else none
    | _ => none
  | .row a t, x, K => match x with
    | .row o t' lo n => match lo with
      | 0 => if (t == t' && atI ι a o) = true then whN n (ln.getD a 0) >>= fun _ => K [] else none
      | _ + 1 => none
    | _ => none
  | .ptr a off, x, K => match x with
    | .ptr o p off' => match p with
      | 0 => if (off == off' && atI ι a o) = true then K [] else none
      | _ + 1 => none
    | _ => none
  | .tptr a t, x, K => match x with
    | .tptr o t' => if (t == t' && atI ι a o) = true then K [] else none
    | _ => none
  | .slf a, x, K => match x with
    | .slf o => if atI ι a o = true then K [] else none
    | _ => none
  | .trow a t, x, K => match x with
    | .trow o t' n => if (t == t' && atI ι a o) = true then whN n (ln.getD a 0) >>= fun _ => K [] else none
    | _ => none
  | .emp, x, K => match x with
    | .emp => K []
    | _ => none
  | .rowlo a t, x, K => match x with
    | .row o t' lo n => if (t == t' && atI ι a o) = true then K [.i lo, .i n] else none
    | .rowx o t' lo n => if (t == t' && atI ι a o) = true then K [.i lo, .i n] else none
    | _ => none
  | .junk, _, _ => none
theorem e0_ok {X : Sys} {ι ln : List Nat} {h : SH0} {x : SV X.I} {K : List (Dy X.I) → Option β} {r : β} (hh : e0 X ι ln h x K = some r) :
    ∃ d y, K d = some r ∧ (∀ tl, b0 ln h (d ++ tl) = some (y, tl)) ∧ (rn1 (ixg ι) (av X y) = av X x ∧ rn2 (ixg ι) (av X y) = av X x) ∧ d.length = h.ks.length := by
  cases h with
  | c v =>
    simp only [e0] at hh
    split at hh
    · split at hh
      · rename_i he; rw [← eqC_ok he]; exact ⟨[], _, hh, fun tl => rfl, ⟨rfl, rfl⟩, rfl⟩
      · cases hh
    · cases hh
  | i k =>
    simp only [e0] at hh
    split at hh
    · split at hh
      · rename_i he; subst he; exact ⟨_, _, hh, fun tl => rfl, ⟨rfl, rfl⟩, rfl⟩
      · cases hh
    · cases hh
  | b =>
    simp only [e0] at hh
    split at hh
    · exact ⟨_, _, hh, fun tl => rfl, ⟨rfl, rfl⟩, rfl⟩
    · cases hh
  | s =>
    simp only [e0] at hh
    split at hh
    · exact ⟨_, _, hh, fun tl => rfl, ⟨rfl, rfl⟩, rfl⟩
    · cases hh
  | l t =>
    simp only [e0] at hh
    split at hh
    · split at hh
      · rename_i he; subst he; exact ⟨_, _, hh, fun tl => rfl, ⟨rfl, rfl⟩, rfl⟩
      · cases hh
    · cases hh
  | row a t =>
    simp only [e0] at hh
    split at hh
    · split at hh
      · split at hh
        · rename_i hc
          simp only [Bool.and_eq_true, beq_iff_eq] at hc
          obtain ⟨rfl, hc⟩ := hc
          obtain ⟨u, h1, h2⟩ := bind_some' hh
          rw [whN_some h1]
          exact ⟨[], _, h2, fun tl => rfl, by simp only [av, rn2, rn1, rn0, atI_ok hc, and_self], rfl⟩
        · cases hh
      · cases hh
    · cases hh
  | ptr a off =>
    simp only [e0] at hh
    split at hh
    · split at hh
      · split at hh
        · rename_i hc
          simp only [Bool.and_eq_true, beq_iff_eq] at hc
          obtain ⟨rfl, hc⟩ := hc
          exact ⟨[], _, hh, fun tl => rfl, by simp only [av, rn2, rn1, rn0, atI_ok hc, and_self], rfl⟩
        · cases hh
      · cases hh
    · cases hh
  | tptr a t =>
    simp only [e0] at hh
    split at hh
    · split at hh
      · rename_i hc
        simp only [Bool.and_eq_true, beq_iff_eq] at hc
        obtain ⟨rfl, hc⟩ := hc
        exact ⟨[], _, hh, fun tl => rfl, by simp only [av, rn2, rn1, rn0, atI_ok hc, and_self], rfl⟩
      · cases hh
    · cases hh
  | slf a =>
    simp only [e0] at hh
    split at hh
    · split at hh
      · rename_i hc
        exact ⟨[], _, hh, fun tl => rfl, by simp only [av, rn2, rn1, rn0, atI_ok hc, and_self], rfl⟩
      · cases hh
    · cases hh
  | trow a t =>
    simp only [e0] at hh
    split at hh
    · split at hh
      · rename_i hc
        simp only [Bool.and_eq_true, beq_iff_eq] at hc
        obtain ⟨rfl, hc⟩ := hc
        obtain ⟨u, h1, h2⟩ := bind_some' hh
        rw [whN_some h1]
        exact ⟨[], _, h2, fun tl => rfl, by simp only [av, rn2, rn1, rn0, atI_ok hc, and_self], rfl⟩
      · cases hh
    · cases hh
  | emp =>
    simp only [e0] at hh
    split at hh
    · exact ⟨[], _, hh, fun tl => rfl, ⟨rfl, rfl⟩, rfl⟩
    · cases hh
  | rowlo a t =>
    simp only [e0] at hh
    split at hh
    · split at hh
      · rename_i hc
        simp only [Bool.and_eq_true, beq_iff_eq] at hc
        obtain ⟨rfl, hc⟩ := hc
        exact ⟨[_, _], .rowx a _ (Int.toNat _) (Int.toNat _), hh, fun tl => rfl, by simp only [av, rn2, rn1, rn0, atI_ok hc, and_self, Int.toNat_natCast], rfl⟩
      · cases hh
    · split at hh
      · rename_i hc
        simp only [Bool.and_eq_true, beq_iff_eq] at hc
        obtain ⟨rfl, hc⟩ := hc
        exact ⟨[_, _], .rowx a _ (Int.toNat _) (Int.toNat _), hh, fun tl => rfl, by simp only [av, rn2, rn1, rn0, atI_ok hc, and_self, Int.toNat_natCast], rfl⟩
      · cases hh
    · cases hh
  | junk => cases hh
def e1 (X : Sys) (ι ln : List Nat) : SH1 → SV X.I → (List (Dy X.I) → Option β) → Option β
  | .lf h, x, K => e0 X ι ln h x K
  | .fn _ _ _, _, _ => none
theorem e1_ok {X : Sys} {ι ln : List Nat} {h : SH1} {x : SV X.I} {K : List (Dy X.I) → Option β} {r : β} (hh : e1 X ι ln h x K = some r) :
    ∃ d y, K d = some r ∧ (∀ tl, b1 ln h (d ++ tl) = some (y, tl)) ∧ (rn1 (ixg ι) (av X y) = av X x ∧ rn2 (ixg ι) (av X y) = av X x) ∧ d.length = h.ks.length := by
  cases h with
  | lf h => exact e0_ok hh
  | fn => cases hh
theorem eL_ok {X : Sys} {α : Type} {f : α → SV X.I → (List (Dy X.I) → Option β) → Option β} {bf : α → List (Dy X.I) → Option (SV X.I × List (Dy X.I))} {ks : α → List PK} {g : AV → AV} {r : β}
    (hf : ∀ h x K, f h x K = some r → ∃ d y, K d = some r ∧ (∀ tl, bf h (d ++ tl) = some (y, tl)) ∧ g (av X y) = av X x ∧ d.length = (ks h).length) : ∀ {hs : List α} {xs : List (SV X.I)} {K : List (Dy X.I) → Option β}, wL f hs xs K = some r →
    ∃ ds ys, K ds = some r ∧ (∀ tl, bL bf hs (ds ++ tl) = some (ys, tl)) ∧ (avs X ys).map g = avs X xs ∧ ds.length = (hs.flatMap ks).length
  | [], [], K, h => ⟨[], [], h, fun tl => rfl, rfl, rfl⟩
  | a :: hs, x :: xs, K, h => by
    simp only [wL] at h
    obtain ⟨d, y, h1, h2, h3, h4⟩ := hf _ _ _ h
    obtain ⟨ds, ys, k1, k2, k3, k4⟩ := eL_ok hf h1
    exact ⟨d ++ ds, y :: ys, k1, fun tl => by simp only [bL, List.append_assoc, h2, k2], by simp only [avs, List.map_cons, h3, k3], by simp [h4, k4]⟩
  | [], _ :: _, K, h => by simp [wL] at h
  | _ :: _, [], K, h => by simp [wL] at h
def eH (X : Sys) (ι ln : List Nat) : SH → SV X.I → (List (Dy X.I) → Option β) → Option β
  | .lf h, x, K => e1 X ι ln h x K
  | .agg hs, x, K => match x with
    | .agg xs => wL (e1 X ι ln) hs xs K
    | _ => none
  | .st t, x, K => match x with
    | .agg cs => match X.ofC t cs with
      | some z => K [.e t z]
      | none => none
    | _ => none
theorem eH_ok {X : Sys} (hX : SysOK X) {ι ln : List Nat} {h : SH} {x : SV X.I} {K : List (Dy X.I) → Option β} {r : β} (hh : eH X ι ln h x K = some r) :
    ∃ d y, K d = some r ∧ (∀ tl, bH X ln h (d ++ tl) = some (y, tl)) ∧ rn2 (ixg ι) (av X y) = av X x ∧ d.length = h.ks.length := by
  cases h with
  | lf h =>
    obtain ⟨d, y, h1, h2, h3, h4⟩ := e1_ok hh
    exact ⟨d, y, h1, h2, h3.2, h4⟩
  | agg hs =>
    simp only [eH] at hh
    split at hh
    · rename_i xs
      obtain ⟨ds, ys, h1, h2, h3, h4⟩ := eL_ok (bf := b1 ln) (ks := SH1.ks) (g := rn1 (ixg ι)) (fun h x K hk => by
        obtain ⟨d, y, k1, k2, k3, k4⟩ := e1_ok hk
        exact ⟨d, y, k1, k2, k3.1, k4⟩) hh
      exact ⟨ds, .agg ys, h1, fun tl => by simp only [bH, h2], by simp only [av, rn2, h3], h4⟩
    · cases hh
  | st t =>
    simp only [eH] at hh
    split at hh
    · split at hh
      · rename_i cs z hz
        refine ⟨[.e t z], .agg (X.toC t z), hh, fun tl => rfl, ?_, rfl⟩
        simp only [av, rn2, ← hX.encC, hX.of _ _ _ hz]
        congr 1
        conv => rhs; rw [← List.map_id (X.enc t z)]
        exact List.map_congr_left fun y hy => rn1_pl _ (List.all_eq_true.1 (hX.encPl t z) y hy)
      · cases hh
    · cases hh

def eRows (X : Sys) (ob : OB X) : List Nat → List SOH → (List (Dy X.I) → Option β) → Option β
  | o :: is, .row t sh _ :: os, K => match ob[o]? with
    | some (some (.row t' sh' true [.xs l])) => if t' = t ∧ sh' = sh then eRows X ob is os fun ds => K (.l t' l :: ds) else none
    | _ => none
  | _ :: is, .box _ _ _ :: os, K => eRows X ob is os K
  | [], [], K => K []
  | _, _, _ => none
def RowsE (X : Sys) (ob : OB X) : List Nat → List SOH → List (Dy X.I) → Prop
  | o :: is, .row t sh _ :: os, d :: rs => (∃ l, d = .l t l ∧ ob[o]? = some (some (.row t sh true [.xs l]))) ∧ RowsE X ob is os rs
  | _ :: is, .box _ _ _ :: os, rs => RowsE X ob is os rs
  | [], [], [] => True
  | _, _, _ => False
theorem eRows_ok {X : Sys} {ob : OB X} {r : β} : ∀ {is : List Nat} {os : List SOH} {K : List (Dy X.I) → Option β}, eRows X ob is os K = some r → ∃ rs, K rs = some r ∧ RowsE X ob is os rs
  | o :: is, .row t sh _ :: os, K, h => by
    simp only [eRows] at h
    split at h
    · rename_i t' sh' l ho
      split at h
      · rename_i hc; obtain ⟨rfl, rfl⟩ := hc
        obtain ⟨rs, h1, h2⟩ := eRows_ok h
        exact ⟨_ :: rs, h1, ⟨l, rfl, ho⟩, h2⟩
      · cases h
    · cases h
  | o :: is, .box _ _ _ :: os, K, h => by
    simp only [eRows] at h
    obtain ⟨rs, h1, h2⟩ := eRows_ok h
    exact ⟨rs, h1, by simpa only [RowsE] using h2⟩
  | [], [], K, h => ⟨[], h, trivial⟩
  | _ :: _, [], K, h => by simp [eRows] at h
  | [], _ :: _, K, h => by simp [eRows] at h
  | _ :: _, .dead :: _, K, h => by simp [eRows] at h
def eBoxes (X : Sys) (ob : OB X) (ι ln : List Nat) : List Nat → List SOH → (List (Dy X.I) → Option β) → Option β
  | o :: is, .box sz sh cs :: os, K => match ob[o]? with
    | some (some (.box sz' sh' xs)) => if sz' = sz ∧ sh' = sh then wL (e1 X ι ln) cs xs fun d => eBoxes X ob ι ln is os fun ds => K (d ++ ds) else none
    | _ => none
  | _ :: is, .row _ _ _ :: os, K => eBoxes X ob ι ln is os K
  | [], [], K => K []
  | _, _, _ => none
def BoxE (X : Sys) (ob : OB X) (ι ln : List Nat) : List Nat → List SOH → List (Dy X.I) → Prop
  | o :: is, .box sz sh cs :: os, bs => ∃ d bs' xs ys, bs = d ++ bs' ∧ ob[o]? = some (some (.box sz sh xs)) ∧ (∀ tl, bL (b1 ln) cs (d ++ tl) = some (ys, tl)) ∧ (avs X ys).map (rn1 (ixg ι)) = avs X xs ∧ d.length = (cs.flatMap SH1.ks).length ∧ BoxE X ob ι ln is os bs'
  | _ :: is, .row _ _ _ :: os, bs => BoxE X ob ι ln is os bs
  | [], [], bs => bs = []
  | _, _, _ => False
theorem eBoxes_ok {X : Sys} {ob : OB X} {ι ln : List Nat} {r : β} : ∀ {is : List Nat} {os : List SOH} {K : List (Dy X.I) → Option β}, eBoxes X ob ι ln is os K = some r → ∃ bs, K bs = some r ∧ BoxE X ob ι ln is os bs
  | o :: is, .box sz sh cs :: os, K, h => by
    simp only [eBoxes] at h
    split at h
    · rename_i sz' sh' xs ho
      split at h
      · rename_i hc; obtain ⟨rfl, rfl⟩ := hc
        obtain ⟨d, ys, h1, h2, h3, h4⟩ := eL_ok (bf := b1 ln) (ks := SH1.ks) (g := rn1 (ixg ι)) (fun h x K hk => by
          obtain ⟨d, y, k1, k2, k3, k4⟩ := e1_ok hk
          exact ⟨d, y, k1, k2, k3.1, k4⟩) h
        obtain ⟨bs, k1, k2⟩ := eBoxes_ok h1
        exact ⟨d ++ bs, k1, d, bs, xs, ys, rfl, ho, h2, h3, h4, k2⟩
      · cases h
    · cases h
  | o :: is, .row _ _ _ :: os, K, h => by
    simp only [eBoxes] at h
    obtain ⟨bs, h1, h2⟩ := eBoxes_ok h
    exact ⟨bs, h1, by simpa only [BoxE] using h2⟩
  | [], [], K, h => ⟨[], h, rfl⟩
  | _ :: _, [], K, h => by simp [eBoxes] at h
  | [], _ :: _, K, h => by simp [eBoxes] at h
  | _ :: _, .dead :: _, K, h => by simp [eBoxes] at h
theorem objs_ofE {X : Sys} (hX : SysOK X) {ob : OB X} {ι ln : List Nat} : ∀ {is : List Nat} {os : List SOH} {rs bs : List (Dy X.I)} {n : Nat}, RowsE X ob is os rs → BoxE X ob ι ln is os bs → (∀ (j o : Nat), is[j]? = some o → ixg ι (n + j) = o) →
    ∃ obn, bObs ln os bs rs = some obn ∧ Holds (obs X ob) (ixg ι) n (obs X obn) ∧ bs.length = (os.flatMap SOH.bks).length ∧ rs.length = (os.flatMap SOH.rks).length ∧ obn.length = os.length ∧ is.length = os.length
  | o :: is, .row t sh _ :: os, d :: rs, bs, n, hr, hb, hi => by
    obtain ⟨⟨l, rfl, ho⟩, hr⟩ := hr
    obtain ⟨obn, h1, h2, h3, h4, h5, h6⟩ := objs_ofE hX (n := n + 1) hr (by simpa only [BoxE] using hb) (fun j o hj => by rw [Nat.add_assoc, Nat.add_comm 1 j]; exact hi (j + 1) o hj)
    refine ⟨some (.row t sh true [.xs l]) :: obn, by simp only [bObs, h1]; rfl, ⟨?_, h2⟩, by simpa [SOH.bks] using h3, by simp [SOH.rks, h4], by simp [h5], by simp [h6]⟩
    rw [show ixg ι n = o from hi 0 o rfl, ← renO_obj _ hX]
    simp only [renO, if_true]
    simp only [obs, List.getElem?_map, ho]; rfl
  | o :: is, .box sz sh cs :: os, rs, bs, n, hr, hb, hi => by
    obtain ⟨d, bs', xs, ys, rfl, ho, k1, k2, k3, hb⟩ := hb
    obtain ⟨obn, h1, h2, h3, h4, h5, h6⟩ := objs_ofE hX (n := n + 1) (by simpa only [RowsE] using hr) hb (fun j o hj => by rw [Nat.add_assoc, Nat.add_comm 1 j]; exact hi (j + 1) o hj)
    refine ⟨some (.box sz sh ys) :: obn, by simp only [bObs, k1, h1]; rfl, ⟨?_, h2⟩, by simp [SOH.bks, h3, k3], by simpa [SOH.rks] using h4, by simp [h5], by simp [h6]⟩
    rw [show ixg ι n = o from hi 0 o rfl]
    simp only [obs, List.getElem?_map, ho, Option.map_some, SO.obj, rnO, Bool.false_eq_true, if_false, List.map_cons, List.map_nil, k2]
  | [], [], [], bs, n, hr, hb, hi => by
    have : bs = [] := hb
    subst this
    exact ⟨[], rfl, trivial, rfl, rfl, rfl, rfl⟩
  | o :: is, .row t sh _ :: os, [], bs, n, hr, hb, hi => by simp [RowsE] at hr
  | [], [], _ :: _, bs, n, hr, hb, hi => by simp [RowsE] at hr
  | _ :: _, [], rs, bs, n, hr, hb, hi => by cases rs <;> simp [RowsE] at hr
  | [], a :: _, rs, bs, n, hr, hb, hi => by cases a <;> cases rs <;> simp [RowsE] at hr
  | _ :: _, .dead :: _, rs, bs, n, hr, hb, hi => by cases rs <;> simp [RowsE] at hr
def allI : List (Option Nat) → Option (List Nat)
  | [] => some []
  | x :: xs => match x, allI xs with
    | some a, some l => some (a :: l)
    | _, _ => none
/-- What is handed, as payload, and where the objects are. -/
def argR (X : Sys) (S : Shp) (ob : OB X) (xs : List (SV X.I)) (K : TT X.I S.ks → List Nat → Option β) : Option β :=
  match allI (mapL 0 S xs ob) with
  | some ι => if (nodupB ι && ι.all fun i => Nat.blt i ob.length) = true then
      eRows X ob ι S.ob fun rs => eBoxes X ob ι (lens S.ob rs) ι S.ob fun bs => wL (eH X ι (lens S.ob rs)) S.tm xs fun ts => match toT S.ks (ts ++ (bs ++ rs)) with
        | some v => K v ι
        | none => none
      else none
  | none => none
theorem argR_ok {X : Sys} (hX : SysOK X) {S : Shp} {ob : OB X} {xs : List (SV X.I)} {K : TT X.I S.ks → List Nat → Option β} {r : β} (h : argR X S ob xs K = some r) :
    ∃ v ι tm' ob', K v ι = some r ∧ build X S (ofT S.ks v) = some (tm', ob') ∧ ι.length = S.ob.length ∧ ι.Nodup ∧ (∀ i ∈ ι, i < ob.length) ∧ (avs X tm').map (rn2 (ixg ι)) = avs X xs ∧ Holds (obs X ob) (ixg ι) 0 (obs X ob') ∧ ob'.length = S.ob.length := by
  unfold argR at h
  split at h
  · rename_i ι hι
    split at h
    · rename_i hc
      simp only [Bool.and_eq_true, List.all_eq_true] at hc
      obtain ⟨rs, h1, h2⟩ := eRows_ok h
      obtain ⟨bs, h3, h4⟩ := eBoxes_ok h1
      obtain ⟨ts, ys, g1, g2, g3, g4⟩ := eL_ok (bf := bH X (lens S.ob rs)) (ks := SH.ks) (g := rn2 (ixg ι)) (fun h x K hk => eH_ok hX hk) h3
      obtain ⟨obn, k1, k2, k3, k4, k5, k6⟩ := objs_ofE hX (n := 0) h2 h4 (fun j o hj => by simp [ixg, List.getD_eq_getElem?_getD, hj])
      split at g1
      · rename_i v hv
        refine ⟨v, ι, ys, obn, g1, ?_, k6, nodupB_ok hc.1, fun i hi => by have := hc.2 i hi; exact Nat.lt_of_succ_le (by simpa [Nat.blt] using this), g3, k2, k5⟩
        rw [toT_ofT hv]
        unfold build
        rw [← g4, ← k3, List.take_left, List.drop_left, List.take_left, ← List.length_append, ← List.append_assoc, List.drop_left]
        unfold bState
        have := g2 []
        rw [List.append_nil] at this
        rw [this, k1]
      · cases g1
    · cases h
  · cases h
end Go.Bx

/- Functions that are handed objects: their contracts. (Own text.) -/
namespace Go.Bx
set_option linter.unusedVariables false
set_option linter.unusedSimpArgs false
set_option linter.unusedSectionVars false
set_option linter.unusedVariables false
set_option linter.unusedSectionVars false
set_option linter.unusedSimpArgs false
variable {β : Type}

structure Frm where
  args : Shp
  A : Ann
  fin : Shp
abbrev Frm.k (f : Frm) : Nat := f.args.ob.length
abbrev Frm.ks (f : Frm) : List PK := f.args.ks
def toRV {I : TypeId → Type} : SV I → RV I
  | .agg cs => (cs.map .sv, true)
  | x => ([.sv x], false)
theorem toRV_av {X : Sys} (x : SV X.I) : rvAV X (toRV x) = av X x := by
  cases x <;> first | rfl | skip
  rename_i cs
  simp only [toRV, rvAV, if_true, List.map_map, av, avs_map]
  congr 1
theorem toRV_sv {I : TypeId → Type} (x : SV I) : rvSv (toRV x) = true := by
  cases x <;> first | rfl | (simp [toRV, rvSv, RC.isSv])
theorem toRVs_av {X : Sys} (l : List (SV X.I)) : rsAV X (l.map toRV) = one (avs X l) := by
  unfold rsAV
  congr 1
  rw [List.map_map, avs_map]
  exact List.map_congr_left fun x _ => toRV_av x

def preR (X : Sys) (f : Frm) (v : TT X.I f.ks) : Option (List (SV X.I) × OB X) := match build X f.args (ofT f.ks v) with
  | some (tm0, ob0) => if refOK f.k (avs X tm0) (obs X ob0) (.tup []) (obs X ob0) = true then some (tm0, ob0) else none
  | none => none
def postR (X : Sys) (f : Frm) (fn : Func) (v : TT X.I f.ks) (w : TT X.I f.fin.ks) : Option (List (RV X.I) × OB X) := match build X f.args (ofT f.ks v), build X f.fin (ofT f.fin.ks w) with
  | some (tm0, ob0), some (tm, ob) => match mapO' (resS ob tm) fn.results.toList with
    | some xs => if ((xs.map toRV).all rvOK && refOK f.k (avs X tm0) (obs X ob0) (one (avs X xs)) (obs X ob)) = true then some (xs.map toRV, ob) else none
    | none => none
  | _, _ => none
def xRef (X : Sys) (C : Calls_ X) (It : Iter) (f : Frm) (fn : Func) (v : TT X.I f.ks) : Option (Pn (TT X.I f.fin.ks)) :=
  match fn.body, build X f.args (ofT f.ks v) with
  | some body, some (tm, ob) => xC X C It f.A f.k body 1 (Pn (TT X.I f.fin.ks)) (tm ++ List.replicate (fn.ntmps - tm.length) (.c undef)) ob fun ex tm ob => match ex with
    | .pan V => some (.pan V)
    | .ret => goTo X f.k f.fin tm ob fun w => some (.ok w)
    | .nrm => goTo X f.k f.fin tm ob fun w => some (.ok w)
    | _ => none
  | _, _ => none
theorem mode_some (k : Nat) : Mode (some 0) k := fun md => omin_z _
theorem bObs_length {X : Sys} {ln : List Nat} : ∀ {os : List SOH} {bs rs : List (Dy X.I)} {ob : OB X}, bObs ln os bs rs = some ob → ob.length = os.length
  | [], bs, rs, ob, h => by cases h; rfl
  | .dead :: os, bs, rs, ob, h => by
    simp only [bObs, Option.map_eq_some_iff] at h
    obtain ⟨ob', h1, rfl⟩ := h
    simp [bObs_length h1]
  | .box sz sh cs :: os, bs, rs, ob, h => by
    simp only [bObs] at h
    split at h
    · rw [Option.map_eq_some_iff] at h
      obtain ⟨ob', h1, rfl⟩ := h
      simp [bObs_length h1]
    · cases h
  | .row t sh _ :: os, bs, [], ob, h => by simp [bObs] at h
  | .row t sh _ :: os, bs, d :: rs, ob, h => by
    cases d <;> simp only [bObs, reduceCtorEq] at h
    rw [Option.map_eq_some_iff] at h
    obtain ⟨ob', h1, rfl⟩ := h
    simp [bObs_length h1]
theorem build_len {X : Sys} {S : Shp} {ds : List (Dy X.I)} {tm : List (SV X.I)} {ob : OB X} (h : build X S ds = some (tm, ob)) : ob.length = S.ob.length := by
  unfold build bState at h
  split at h
  · rename_i h1 h2; cases h; exact bObs_length h2
  · cases h
def SoundR (X : Sys) (f : Frm) (fid : FuncId) (fn : Func) (F : TT X.I f.ks → Option (Pn (TT X.I f.fin.ks))) : Prop :=
  ∀ v r, F v = some r → ∀ p, preR X f v = some p → match r with
    | .ok w => ∀ q, postR X f fn v w = some q → RefC X.E fid f.k (avs X p.1) (obs X p.2) (rsAV X q.1) (obs X q.2)
    | .pan V => RefP X.E fid f.k (avs X p.1) (obs X p.2) V
theorem clos_endR {base : Nat} {c00 : Ctx} {E : Env} {σ00 : Store} {fn : Func} {r : AV} {objs : List (Option Obj)} : ∀ (ex : Ex) s s', Wk base c00 σ00 s s' → ((ex = .ret ∨ ex = .nrm) ∧ RtR E base c00 σ00 fn r objs s') → ((ex = .ret ∨ ex = .nrm) ∧ RtR E base c00 σ00 fn r objs s) :=
  fun ex s s' hw h => ⟨h.1, h.2.choose, hw.trans h.2.choose_spec.1, h.2.choose_spec.2⟩
theorem ref_sound {X : Sys} (hX : SysOK X) {C : Calls_ X} {It : Iter} {f : Frm} {fid : FuncId} {fn : Func} (hf : X.E.P.funcs[fid]? = some fn) (hname : fn.name ≠ "runtime.NumGoroutine") : SoundR X f fid fn (xRef X C It f fn) := by
  intro v r h p hp
  unfold xRef at h
  split at h
  · rename_i body tm ob hb hbd
    have hp' : p = (tm, ob) ∧ refOK f.k (avs X tm) (obs X ob) (.tup []) (obs X ob) = true := by
      unfold preR at hp
      rw [hbd] at hp
      simp only at hp
      split at hp
      · rename_i hc; exact ⟨(Option.some.inj hp).symm, hc⟩
      · cases hp
    obtain ⟨rfl, hpre⟩ := hp'
    have hlen : (obs X ob).length = f.k := by rw [obs_len]; exact build_len hbd
    have hstart : avs X (tm ++ List.replicate (fn.ntmps - tm.length) (.c undef)) = avs X tm ++ List.replicate (fn.ntmps - (avs X tm).length) (.v undef) := by
      rw [avs_append, avs_length]
      congr 1
      rw [avs_map, List.map_replicate]; rfl
    cases r with
    | ok w =>
      intro q hq
      unfold postR at hq
      rw [hbd] at hq
      split at hq
      · rename_i tm1 ob1 tm2 ob2 e1 e2
        cases e1
        split at hq
        · rename_i xs hxs
          split at hq
          · rename_i hc
            cases hq
            simp only [Bool.and_eq_true] at hc
            have hr := refOK_of hc.2
            rw [toRVs_av]
            intro base σ g hg hgc l hl hold
            refine ref_of_wp hX.tab hX.mix hf hb rfl hname (fun g => by rw [hX.gl]; rfl) hr (fun base c00 hU => ?_) base σ g hg hgc hl hold hX.np
            rw [← hstart]
            rw [← hlen] at h
            have := xC_ok hX (O := obs X ob) hU (mode_some f.k) (.inr rfl) body 1 _ _ ob _ _ (fun ex s => (ex = .ret ∨ ex = .nrm) ∧ RtR X.E base c00 (St (obs X ob)) fn (one (avs X xs)) (obs X ob2) s) h clos_endR fun ex tm' ob' hk => by
              have fin : ∀ {tm' : List (SV X.I)} {ob' : OB X}, goTo X (obs X ob).length f.fin tm' ob' (fun w => some (Pn.ok w)) = some (.ok w) → RtR X.E base c00 (St (obs X ob)) fn (one (avs X xs)) (obs X ob2) (fsS X (some 0) f.k tm' ob') := fun hk => by
                obtain ⟨v', tm3, ob3, g1, g2, g3⟩ := goTo_ok hX (O := obs X ob) hU (mode_some f.k) (.inr rfl) hk
                cases g1
                rw [e2] at g2; cases g2
                exact ⟨_, g3, rfl, avs X xs, resS_ok hX hxs, rfl⟩
              cases ex <;> simp only [reduceCtorEq, Option.some.injEq] at hk
              · exact ⟨.inr rfl, fin hk⟩
              · exact ⟨.inl rfl, fin hk⟩
            exact this
          · cases hq
        · cases hq
      · cases hq
    | pan V =>
      have hr := refOK_of hpre
      refine refP_of_wp hX.tab hX.mix hf hb rfl hname (fun g => by rw [hX.gl]; rfl) hr (fun base c00 hU => ?_) hX.np
      rw [← hstart]
      rw [← hlen] at h
      have := xC_ok hX (O := obs X ob) hU (mode_some f.k) (.inr rfl) body 1 _ _ ob _ _ (fun ex s => ex = .pan V) h (fun ex s s' hw h => h) fun ex tm' ob' hk => by
        cases ex <;> simp only [reduceCtorEq, Option.some.injEq] at hk
        · obtain ⟨v', tm2, ob2, g1, g2, g3⟩ := goTo_ok hX (O := obs X ob) hU (mode_some f.k) (.inr rfl) hk
          cases g1
        · obtain ⟨v', tm2, ob2, g1, g2, g3⟩ := goTo_ok hX (O := obs X ob) hU (mode_some f.k) (.inr rfl) hk
          cases g1
        · cases hk; rfl
      exact this
  · cases h

abbrev SndR (X : Sys) (f : Frm) (fid : FuncId) (fn : Func) := { F : TT X.I f.ks → Option (Pn (TT X.I f.fin.ks)) // SoundR X f fid fn F }
def SndR.run {X : Sys} (hX : SysOK X) (C : Calls_ X) (It : Iter) (f : Frm) (fid : FuncId) {fn : Func} (hf : X.E.P.funcs[fid]? = some fn) (hname : fn.name ≠ "runtime.NumGoroutine") : SndR X f fid fn :=
  ⟨xRef X C It f fn, ref_sound hX hf hname⟩
def SndR.none {X : Sys} (f : Frm) (fid : FuncId) {fn : Func} : SndR X f fid fn := ⟨fun _ => .none, fun v r h => by cases h⟩
def SndR.fuel {X : Sys} {f : Frm} {fid : FuncId} {fn : Func} (n : TT X.I f.ks → Nat) (G : Nat → SndR X f fid fn) : SndR X f fid fn := ⟨fun v => (G (n v)).1 v, fun v r h => (G (n v)).2 v r h⟩
def SndR.row {X : Sys} (hX : SysOK X) {f : Frm} {fid : FuncId} {fn : Func} (G : SndR X f fid fn) (hpre : ∀ v, (preR X f v).isSome = true) (hpost : ∀ v w, (postR X f fn v w).isSome = true) : RCall X fid where
  A := TT X.I f.ks
  R := TT X.I f.fin.ks
  k := f.k
  ps := fn.params.toList
  arg := argR X f.args
  pre := fun v => (preR X f v).getD ([], [])
  bind := fun v K Kp => G.1 v >>= fun o => match o with
    | .ok w => K w
    | .pan V => Kp V
  post := fun v w => (postR X f fn v w).getD ([], [])
  arg_ok := fun {β ob args K r} h => by
    obtain ⟨v, ι, tm', ob', h1, h2, h3, h4, h5, h6, h7, h8⟩ := argR_ok hX h
    have hp : (preR X f v).getD ([], []) = (tm', ob') := by
      have := hpre v
      unfold preR at this ⊢
      rw [h2] at this ⊢
      simp only at this ⊢
      split at this
      · rename_i hc; rw [if_pos hc]; rfl
      · cases this
    refine ⟨v, ι, h1, h3, h4, h5, ?_, ?_⟩
    · rw [hp]; exact h6
    · rw [hp]; exact h7
  ok := fun {β} a K Kp r h => by
    obtain ⟨o, h1, h2⟩ := bind_some' h
    obtain ⟨p, hp⟩ := Option.isSome_iff_exists.1 (hpre a)
    have hs := G.2 _ _ h1 p hp
    have hpe : (preR X f a).getD ([], []) = p := by rw [hp]; rfl
    cases o with
    | ok w =>
      obtain ⟨q, hq⟩ := Option.isSome_iff_exists.1 (hpost a w)
      have hqe : (postR X f fn a w).getD ([], []) = q := by rw [hq]; rfl
      refine .inl ⟨w, h2, ?_⟩
      rw [hpe, hqe]
      refine ⟨hs q hq, ?_⟩
      unfold postR at hq
      split at hq
      · split at hq
        · rename_i xs _
          split at hq
          · rename_i hc; cases hq
            simp only [Bool.and_eq_true] at hc
            have hr := refOK_of hc.2
            refine ⟨by have := hr.hk'; rw [obs_len] at this; exact this, hc.1, ?_⟩
            rw [List.all_map, List.all_eq_true]
            exact fun x _ => toRV_sv x
          · cases hq
        · cases hq
      · cases hq
    | pan V => exact .inr ⟨V, h2, by rw [hpe]; exact hs⟩
end Go.Bx

/- Contracts by hand of functions that are handed objects. (Own text.) -/
namespace Go.Bx
set_option linter.unusedVariables false
set_option linter.unusedSimpArgs false
set_option linter.unusedSectionVars false
set_option linter.unusedVariables false
theorem Core.sub {ob ob' : Nat → Option Obj} {c : Ctx} {base : Nat} (h : Core ob c base) (hs : ∀ id o, ob' id = some o → ob id = some o) : Core ob' c base where
  obj := fun id o L h1 h2 => h.obj id o L (hs _ _ h1) h2
  virt := fun id o h1 h2 => h.virt id o (hs _ _ h1) h2
  apart := fun id id' o o' L L' h1 h2 h3 h4 h5 => h.apart id id' o o' L L' (hs _ _ h1) (hs _ _ h2) h3 h4 h5
  inn := h.inn
  free := fun id o L h1 h2 => h.free id o L (hs _ _ h1) h2
  base_le := h.base_le
theorem CallOK.agree {E : Env} {base : Nat} {f : FuncId} {args : Cs} {σ τ τ' : Store} {r : AV} {m l : Nat} (hi : ∀ s, importAV s r = (r, s)) (h : CallOK E base f args σ r τ (some m)) (hl : l ≤ m)
    (hc : τ'.clock = τ.clock) (hσ : τ.clock = σ.clock) (he : ∀ id, id < σ.clock → τ'.ob id = τ.ob id ∨ (τ'.ob id = none ∧ ∀ c us, Reps c args us → c.m id ≠ none)) (hn : ∀ id, ¬ id < σ.clock → τ'.ob id = none) : CallOK E base f args σ r τ' (some l) := by
  obtain ⟨h1, _, h3, h4⟩ := h
  simp only [hi] at h1 h4
  have hsub : ∀ id o, τ'.ob id = some o → τ.ob id = some o := fun id o ho => by
    by_cases hlt : id < σ.clock
    · rcases he id hlt with h | ⟨h, _⟩
      · rw [← h]; exact ho
      · rw [h] at ho; cases ho
    · rw [hn id hlt] at ho; cases ho
  refine ⟨?_, (fun e => by cases e), h3, fun c us hI hG hus => ?_⟩
  · simp only [hi]; exact ⟨by rw [hc]; exact h1.1, fun id o ho => (by rw [hc]; exact h1.2 id o (hsub id o ho))⟩
  obtain ⟨k1, k2⟩ := h4 c us hI hG hus
  simp only [hi]
  refine ⟨fun id h5 h6 => ?_, k2.mono ?_⟩
  · rcases he id h5 with h | ⟨_, h⟩
    · rw [h]; exact k1 id h5 h6
    · exact absurd h6 (h c us hus)
  have low : ∀ {c'}, Fr c σ (some m) c' → Fr c σ (some l) c' := fun hf => hf.low hI.dom fun id l' _ e hll => by cases e; exact ⟨l, rfl, Nat.le_trans hl hll⟩
  rintro e w' (⟨v, c', a1, a2, a3, a4, a5, a6⟩ | ⟨V, c', a1, a2, a3, a4, a5⟩)
  · exact .inl ⟨v, c', a1, a2, a3, ⟨a4.core.sub hsub, fun id L h => by rw [hc]; exact a4.dom id L h, fun id o h => by rw [hc]; exact a4.old id o (hsub id o h)⟩, a5, low a6⟩
  · exact .inr ⟨V, c', a1, a2, a3, a4, low a5⟩
theorem refC_of {E : Env} {f : FuncId} {k : Nat} {args : Cs} {objs : List (Option Obj)} {r : AV} {objs' : List (Option Obj)} (hr : ∀ g, rn3 g r = r) (hi : ∀ s, importAV s r = (r, s)) (hlen : objs'.length = k)
    (h : ∀ (base : Nat) (σ : Store) (g : Nat → Nat), (∀ i j, i < k → j < k → g i = g j → i = j) → (∀ j, j < k → g j < σ.clock) → (∀ j o, objs[j]? = some (some o) → σ.ob (g j) = some (rnO g o)) →
      ∃ τ j, j < k ∧ τ.clock = σ.clock ∧ CallOK E base f (args.map (rn2 g)) σ r τ (some (g j)) ∧
        (∀ j, j < k → ((objs'[j]?).getD none).map (rnO (gx g k σ.clock)) = τ.ob (g j) ∨ (objs'[j]? = some none ∧ ∀ c us, Reps c (args.map (rn2 g)) us → c.m (g j) ≠ none)) ∧ (∀ id, (∀ j, j < k → g j ≠ id) → τ.ob id = σ.ob id)) : RefC E f k args objs r objs' := by
  intro base σ g hg hlt l hl ho
  obtain ⟨τ, j, h1, h2, h3, h4, h5⟩ := h base σ g hg hlt ho
  rw [hr]
  refine h3.agree hi (hl j h1) (by simp [great, hlen, h2]) h2 (fun id hid => ?_) (fun id hid => ?_)
  · rw [great_lt hid]
    cases hx : ixOf g k id with
    | none =>
      simp only
      exact .inl (h5 id fun j hj => ixOf_none hx hj).symm
    | some i =>
      obtain ⟨hik, rfl⟩ := ixOf_some hx
      simp only
      rcases h4 i hik with h | ⟨h, h'⟩
      · exact .inl h
      · exact .inr ⟨by rw [h]; rfl, h'⟩
  · rw [great_ge hid, List.getElem?_eq_none (by omega)]; rfl
end Go.Bx

/- A call that is put off, and a panic that it takes: parts of the proof. (Own text.) -/
namespace Go.Bx
set_option linter.unusedVariables false
set_option linter.unusedSimpArgs false
set_option linter.unusedSectionVars false
set_option linter.unusedVariables false
set_option linter.unusedSectionVars false

/-! ### a panic leaves the elder objects, that it was not handed -/
def keepC (N : Nat) (c1 c' : Ctx) : Ctx := { c' with
  m := fun id => (match c1.m id with
    | some l => some l
    | none => if id < N then some .virt else none)
  S := c1.S
  dfr := [] }
theorem keepC_at {N : Nat} {c1 c' : Ctx} {id : Nat} {L : Loc} (h : (keepC N c1 c').m id = some (.at L)) : c1.m id = some (.at L) := by
  simp only [keepC] at h
  split at h
  · rename_i l hl; rw [hl]; exact h
  · split at h <;> cases h
theorem keepC_of {N : Nat} {c1 c' : Ctx} {id : Nat} {l : ML} (h : c1.m id = some l) : (keepC N c1 c').m id = some l := by simp [keepC, h]
theorem keep_ext1 {N : Nat} {c1 c' : Ctx} (e : Ext c1 c') : Ext c1 (keepC N c1 c') := ⟨fun _ h => h, e.cell, fun _ _ h => keepC_of h, e.size, e.os, e.tape, e.output, e.ty⟩
theorem keep_inv {ob O : List (Option Obj)} {c1 c' : Ctx} {base b : Nat} (hI : Inv (St ob) c1 base) (e : Ext c1 c') (f : Fr c1 (St ob) (some b) c') (hO : O = ob.take b ++ List.replicate (ob.length - b) none) (hb : b ≤ ob.length)
    (hpl : ∀ id, id < b → c1.m id ≠ none) : Inv (St O) (keepC ob.length c1 c') base := by
  have hlen : O.length = ob.length := by rw [hO, List.length_append, List.length_take, List.length_replicate]; omega
  have hob : ∀ (id : Nat) o, (St O).ob id = some o → id < b ∧ (St ob).ob id = some o := fun id o h => by
    have h1 : O[id]? = some (some o) := by
      simp only [St] at h
      cases hx : O[id]? with
      | none => rw [hx] at h; cases h
      | some q => rw [hx] at h; simp at h; rw [h]
    rw [hO] at h1
    by_cases hlt : id < b
    · rw [List.getElem?_append_left (by rw [List.length_take]; omega), List.getElem?_take, if_pos hlt] at h1
      exact ⟨hlt, by simp [St, h1]⟩
    · rw [List.getElem?_append_right (by rw [List.length_take]; omega), List.getElem?_replicate] at h1
      split at h1 <;> cases h1
  refine ⟨⟨fun id o L ho h2 => ?_, fun id o ho h2 => ?_, fun id id' o o' L L' h1 h2 h3 h4 h5 => ?_, fun a ha => ?_, fun id o L ho h2 => ?_, Nat.le_trans hI.core.base_le e.size⟩, fun id l h => ?_, fun id o h => ?_⟩
  · obtain ⟨hlt, ho'⟩ := hob id o ho
    have h2' := keepC_at h2
    have hok := hI.core.obj id o L ho' h2'
    obtain ⟨arr, T, m1, m2, m3⟩ := hok.mem
    have hbl : c'.w.heap[L.b]? = c1.w.heap[L.b]? := f.block L.b (hI.core.b_lt ho' h2') fun id2 o2 L2 ho2 hm2 l hl hle hbb => by
      cases hl
      exact hI.core.apart id2 id o2 o L2 L ho2 ho' hm2 h2' (by omega) hbb
    refine ⟨hok.sz, hok.base, hok.tot, hok.wid, hok.leafs, hok.flat, arr, T, (by show c'.w.heap[L.b]? = _; rw [hbl]; exact m1), m2, fun i es j x hi hj => ?_⟩
    obtain ⟨u, u1, u2, u3⟩ := m3 i es j x hi hj
    exact ⟨u, u1, u2.mono (keep_ext1 e), u3⟩
  · obtain ⟨hlt, ho'⟩ := hob id o ho
    refine hI.core.virt id o ho' ?_
    cases hx : c1.m id with
    | none => exact absurd hx (hpl id hlt)
    | some l => rw [keepC_of hx] at h2; exact h2
  · exact hI.core.apart id id' o o' L L' (hob id o h1).2 (hob id' o' h2).2 (keepC_at h3) (keepC_at h4) h5
  · obtain ⟨i1, u, i2⟩ := hI.core.inn a ha
    exact ⟨i1, u, (by show c'.w.cell? a = _; rw [e.cell a ha]; exact i2)⟩
  · exact hI.core.free id o L (hob id o ho).2 (keepC_at h2)
  · show id < O.length
    rw [hlen]
    simp only [keepC] at h
    split at h
    · rename_i l' hl; exact hI.dom id l' hl
    · split at h
      · assumption
      · cases h
  · show id < O.length
    rw [hlen]; have := (hob id o h).1; omega
theorem keep_ext {N : Nat} {c00 c1 c' : Ctx} (h0 : ∀ id, c00.m id = none) (h : Ext c00 c1) (e : Ext c1 c') : Ext c00 (keepC N c1 c') := h.trans (keep_ext1 e)
theorem keep_fr {base b N : Nat} {c00 c1 c' : Ctx} {ob : List (Option Obj)} (hI : Inv (St ob) c1 base) (h0 : ∀ id, c00.m id = none) (h : Ext c00 c1) (e : Ext c1 c') (f : Fr c1 (St ob) (some b) c') (hf : Fr c00 (St []) none c1) : Fr c00 (St []) none (keepC N c1 c') where
  block := fun bb hb hne => by
    have h1 := hf.block bb hb hne
    have h2 : c'.w.heap[bb]? = c1.w.heap[bb]? := f.block bb (Nat.lt_of_lt_of_le hb h.size) fun id o L ho hm l hl hle hbb => by
      rcases hf.bnew id L hm (by rw [h0]; exact nofun) with h3 | ⟨id', o', L', h3, _⟩
      · rw [hbb] at h3; omega
      · simp [St] at h3
    exact h2.trans h1
  mnew := fun id l hl => .inr (Nat.zero_le _)
  bnew := fun id L hl hn => hf.bnew id L (keepC_at hl) hn
  snew := fun a ha => hf.snew a ha
/-- Two stretches: the first from nothing. -/
theorem fr_two {base : Nat} {c00 c1 c2 : Ctx} {O : List (Option Obj)} {m2 : Option Nat} (hI : Inv (St O) c1 base) (h0 : ∀ id, c00.m id = none) (h : Ext c00 c1) (hf : Fr c00 (St []) none c1) (k : Fr c1 (St O) m2 c2) : Fr c00 (St []) none c2 := by
  have h1 := Fr.trans hf k (Nat.zero_le _) h hI.core (fun id o _ => .inr (Nat.zero_le _)) (fun id l hm => by rw [h0] at hm; cases hm)
  exact Fr.low h1 (fun id l hm => by rw [h0] at hm; cases hm) (fun id l hlt => absurd hlt (Nat.not_lt_zero _))

/-! ### a callee that is handed younger objects alone -/
def RCall.from {X : Sys} {f : FuncId} (P : RCall X f) (b : Nat) : RCall X f where
  A := P.A
  R := P.R
  k := P.k
  ps := P.ps
  arg := fun ob as K => P.arg ob as fun a ι => if (ι.all fun i => Nat.ble b i) = true then K a ι else none
  pre := P.pre
  bind := P.bind
  post := P.post
  arg_ok := fun h => by
    obtain ⟨a, ι, h1, h2⟩ := P.arg_ok h
    split at h1
    · exact ⟨a, ι, h1, h2⟩
    · cases h1
  ok := P.ok
variable {β : Type}
theorem xCall_from {X : Sys} (hX : SysOK X) {base : Nat} {ob : OB X} {tm : List (SV X.I)} {g : FuncId} {b : Nat} {fo : Operand} {args : Array Operand} {ts : Array TypeId} {P : RCall X g} (hf : rho tm fo = .fn g [] [])
    (hid : idsA (X.E.br g) 0 (args.toList.map (rho tm)) = [])
    {K : SV X.I → OB X → XF → Option β} {Kp : Value → Option β} {r : β} (h : xCall X ob (.ref (P.from b)) (args.toList.map (rho tm)) K Kp = some r) :
    (∃ y ob' x, K y ob' x = some r ∧ OpOK X base ob (evOp X.E.gl (avs X tm)) (.call ⟨.value fo, args, ts⟩) y ob' x) ∨ ∃ V, Kp V = some r ∧ ∀ oo : Oper, oo.op = .call ⟨.value fo, args, ts⟩ → PanAt X.E base (avs X tm) (St (obs X ob)) oo V (some b) := by
  have hρ : ∀ x, evOp X.E.gl (avs X tm) x = av X (rho tm x) := rho_av hX tm
  have has : args.toList.map (evOp X.E.gl (avs X tm)) = avs X (args.toList.map (rho tm)) := by
    rw [avs_map (args.toList.map (rho tm)), List.map_map]; exact List.map_congr_left fun x _ => hρ x
  have hA : ∀ c, evA X.E.T (evOp X.E.gl (avs X tm)) c (.call ⟨.value fo, args, ts⟩) = none := fun c => rfl
  have hev : ∀ ci, evO X.E.T X.E.br ci (evOp X.E.gl (avs X tm)) (St (obs X ob)) (.call ⟨.value fo, args, ts⟩) = evCall X.E.br ci (St (obs X ob)) (.fn g [] []) (args.toList.map (evOp X.E.gl (avs X tm))) := fun ci => by
    simp only [evO, hA, evB, hρ, hf, av]; rfl
  have hnl : ∀ t a, Op.call ⟨.value fo, args, ts⟩ ≠ .load t a := fun t a h => by cases h
  have h' := h
  · unfold xCall at h'
    simp only at h'
    split at h'
    · rename_i hag
      split at h'
      · rename_i ob1 hsh
        obtain ⟨s1, s2, s3, s4, s5⟩ := shareS_ok hsh
        obtain ⟨ys, h1, h2⟩ := vwA_ok h'
        have hids := idsA_ok (X := X) (ob := ob) s3 hag
        obtain ⟨a, ι, h1, a1, a2, a3, a4, a5⟩ := P.arg_ok h1
        split at h1
        · rename_i hιb
          rcases P.ok _ _ _ _ h1 with ⟨x, h3, h4, h5, h6, h7⟩ | ⟨V, h3, h4⟩
          · left
            have hc := h4.at (base := base) (L := obs X ob1) ι 0 (by
              simp only [Bool.and_eq_true, beq_iff_eq, decide_eq_true_eq, List.all_eq_true]
              exact ⟨⟨⟨a1, a2⟩, fun i hi => ⟨by rw [obs_len]; exact a3 i hi, Nat.zero_le _⟩⟩, by rw [obs_len]; exact h5⟩) a5 a4 rfl rfl
            rw [← greatS_obs hX, obs_len, ← renRS_av _ h7 h6] at hc
            have h6' : ((P.post a x).1.map (renRV (gx (ixg ι) P.k ob1.length))).all rvOK = true := by
              rw [List.all_map, List.all_eq_true]; exact fun v hv => renRV_ok _ (List.all_eq_true.1 h6 v hv)
            have h7' : ((P.post a x).1.map (renRV (gx (ixg ι) P.k ob1.length))).all rvSv = true := by
              rw [List.all_map, List.all_eq_true]; intro v hv
              have := List.all_eq_true.1 h7 v hv
              simp only [rvSv, Function.comp, renRV, List.all_map, List.all_eq_true] at this ⊢
              intro c hc
              have := this c hc
              cases c <;> first | rfl | cases this
            have hlen : ob1.length ≤ (greatS ob1 ι P.k (P.post a x).2).length := by
              simp only [greatS, List.length_append, setAll_len]; omega
            refine ⟨_, _, _, h3, rone g (avs X ys) (St (obs X ob1)) (_, _, some 0) (fun _ _ _ => none), omin (freshS ob (idsA (X.E.br g) 0 (args.toList.map (rho tm)))) (some 0), rone_ok hc no_ok, ?_, omin_some.symm, (fun id h => by cases h), fun id _ hid' => ?_⟩
            · rw [hev]
              simp only [evCall, List.nil_append, List.append_nil]
              rw [has, hids, s1, h2]
              simp only [rone_eq, impS_ok h6', freshS_ok s3, impS_sv h7']
              rfl
            · refine stays_call hX (ob1 := ob1) (ι := ι) s4 (fun i hi hn => ?_) (by show _ ≤ (greatS ob1 ι P.k (P.post a x).2).length; omega) hid'
              show (greatS ob1 ι P.k (P.post a x).2)[i]? = _
              simp only [greatS]
              rw [List.getElem?_append_left (by rw [setAll_len]; omega), setAll_get _ _ _ _ a2 (by simp; omega) (by omega)]
              have : ι.findIdx? (· == i) = none := by
                rw [List.findIdx?_eq_none_iff]; intro x hx; simp; intro e; subst e; exact hn hx
              rw [this]
          · right
            have hc := h4.at (base := base) (L := obs X ob1) ι b (by
              simp only [Bool.and_eq_true, beq_iff_eq, decide_eq_true_eq, List.all_eq_true]
              exact ⟨⟨a1, a2⟩, fun i hi => ⟨by rw [obs_len]; exact a3 i hi, Nat.le_of_ble_eq_true (List.all_eq_true.1 hιb i hi)⟩⟩) a5 a4
            refine ⟨V, h3, fun oo hoo => ?_⟩
            have hfr : omin (freshL (St (obs X ob)) (idsA (X.E.br g) 0 (args.toList.map (rho tm)))) (some b) = some b := by rw [hid]; rfl
            rw [← hfr]
            refine PanAt.call hX.tab (ci' := rone g (avs X ys) (St (obs X ob1)) (noR, St (obs X ob1), some b) (fun _ _ _ => none)) (rone_ok hc no_ok) (r := ⟨noR, St (obs X ob1), omin (freshL (St (obs X ob)) (idsA (X.E.br g) 0 (args.toList.map (rho tm)))) (some b), true⟩) (fun t a => by rw [hoo]; exact hnl t a) ?_ noR_no
            rw [hoo, hev]
            simp only [evCall, List.nil_append, List.append_nil]
            rw [has, hids, s1, h2]
            simp only [rone_eq]
            rfl
        · cases h1
      · cases h'
    · cases h'
end Go.Bx
