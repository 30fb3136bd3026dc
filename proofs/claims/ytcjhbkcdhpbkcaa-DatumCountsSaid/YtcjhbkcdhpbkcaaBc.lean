/- An evaluator of the model's code over plain values, and the proof that what it answers the machine does (Bc). Own text; parts are printed by a program of this claim's author. -/
import Derived.Test.YtcjhbkcdhpbkcaaBb
/- Weakening: a state may be told with less: slots forgotten, objects dropped, numbered anew, rows as views. (Own text.) -/
namespace Go.Bx
set_option linter.unusedVariables false
set_option linter.unusedSimpArgs false
set_option linter.unusedSectionVars false
set_option linter.unusedVariables false
set_option linter.unusedSectionVars false
set_option linter.unusedSimpArgs false

/-- What is told by the second is told by the first: 'ρ' leads from the new numbers to the old ones; 'vt': new rows without a cell. -/
inductive WV (σ : Store) (ρ : Nat → Option Nat) (vt : Nat → Bool) : AV → AV → Prop
  | junk (x : AV) : WV σ ρ vt x .junk
  | keep {x : AV} (h : closed x = true) : WV σ ρ vt x x
  | row {id id' sz lo n : Nat} (h : ρ id' = some id) : WV σ ρ vt (.row id sz lo n) (.row id' sz lo n)
  | nil {id' sz lo : Nat} (h : vt id' = true) : WV σ ρ vt (.v (.slice none 0 0)) (.row id' sz lo 0)
  | nilsl : WV σ ρ vt (.v (.slice none 0 0)) (.sl [])
  | emp {id' sz lo : Nat} (h : vt id' = true) : WV σ ρ vt .emp (.row id' sz lo 0)
  | empsl : WV σ ρ vt .emp (.sl [])
  | nilemp : WV σ ρ vt (.v (.slice none 0 0)) .emp
  | view {k : Nat} {x : AV} {es : List Cs} (h : reify σ k x = some (.sl es)) : WV σ ρ vt x (.sl es)
  | ptr {id id' i off : Nat} (h : ρ id' = some id) : WV σ ρ vt (.ptr id i off) (.ptr id' i off)
  | tptr {id id' : Nat} {t : TypeId} (h : ρ id' = some id) : WV σ ρ vt (.tptr id t) (.tptr id' t)
  | slf {id id' : Nat} (h : ρ id' = some id) : WV σ ρ vt (.slf id) (.slf id')
  | slfN {id' : Nat} : WV σ ρ vt (.v (.pointer none)) (.slf id')
  | slfT {id id' : Nat} {t : TypeId} (h : ρ id' = some id) : WV σ ρ vt (.tptr id t) (.slf id')
  | trow {id id' n : Nat} {t : TypeId} (h : ρ id' = some id) : WV σ ρ vt (.trow id t n) (.trow id' t n)
  | trowN {id' : Nat} {t : TypeId} (h : vt id' = true) : WV σ ρ vt (.v (.slice none 0 0)) (.trow id' t 0)
  | vptr {id : Nat} {o : Obj} {cs : Cs} (ho : σ.ob id = some o) (hsh : o.sh = true) (he : o.es = [cs]) (hp : cs.all pl = true) : WV σ ρ vt (.ptr id 0 0) (.vp cs)
  | agg {xs ys : Cs} (hl : xs.length = ys.length) (h : ∀ (j : Nat) x y, xs[j]? = some x → ys[j]? = some y → WV σ ρ vt x y) : WV σ ρ vt (.agg xs) (.agg ys)
  | tup {xs ys : Cs} (hl : xs.length = ys.length) (h : ∀ (j : Nat) x y, xs[j]? = some x → ys[j]? = some y → WV σ ρ vt x y) : WV σ ρ vt (.tup xs) (.tup ys)
  | fn {f : FuncId} {xs ys zs us : Cs} (hl : xs.length = ys.length) (hl' : zs.length = us.length) (h : ∀ (j : Nat) x y, xs[j]? = some x → ys[j]? = some y → WV σ ρ vt x y)
      (h' : ∀ (j : Nat) x y, zs[j]? = some x → us[j]? = some y → WV σ ρ vt x y) : WV σ ρ vt (.fn f xs zs) (.fn f ys us)

/-- Pointwise. -/
inductive WVs (σ : Store) (ρ : Nat → Option Nat) (vt : Nat → Bool) : Cs → Cs → Prop
  | nil : WVs σ ρ vt [] []
  | cons {x y : AV} {xs ys : Cs} (h : WV σ ρ vt x y) (t : WVs σ ρ vt xs ys) : WVs σ ρ vt (x :: xs) (y :: ys)

theorem WVs.get {σ : Store} {ρ : Nat → Option Nat} {vt : Nat → Bool} {xs ys : Cs} (h : WVs σ ρ vt xs ys) : xs.length = ys.length ∧ ∀ (j : Nat) x y, xs[j]? = some x → ys[j]? = some y → WV σ ρ vt x y := by
  induction h with
  | nil => exact ⟨rfl, fun j x y h => by simp at h⟩
  | cons h _ ih =>
    refine ⟨by simp [ih.1], fun j x y h1 h2 => ?_⟩
    cases j with
    | zero => simp at h1 h2; subst h1; subst h2; exact h
    | succ j => exact ih.2 j x y (by simpa using h1) (by simpa using h2)

theorem WVs.aggW {σ : Store} {ρ : Nat → Option Nat} {vt : Nat → Bool} {xs ys : Cs} (h : WVs σ ρ vt xs ys) : WV σ ρ vt (.agg xs) (.agg ys) := .agg h.get.1 h.get.2
theorem WVs.tupW {σ : Store} {ρ : Nat → Option Nat} {vt : Nat → Bool} {xs ys : Cs} (h : WVs σ ρ vt xs ys) : WV σ ρ vt (.tup xs) (.tup ys) := .tup h.get.1 h.get.2
theorem WVs.fnW {σ : Store} {ρ : Nat → Option Nat} {vt : Nat → Bool} {f : FuncId} {xs ys zs us : Cs} (h : WVs σ ρ vt xs ys) (k : WVs σ ρ vt zs us) : WV σ ρ vt (.fn f xs zs) (.fn f ys us) := .fn h.get.1 k.get.1 h.get.2 k.get.2
theorem WVs.append {σ : Store} {ρ : Nat → Option Nat} {vt : Nat → Bool} {xs ys zs us : Cs} (h : WVs σ ρ vt xs ys) (k : WVs σ ρ vt zs us) : WVs σ ρ vt (xs ++ zs) (ys ++ us) := by
  induction h with
  | nil => exact k
  | cons h _ ih => exact .cons h ih
theorem WVs.refl {σ : Store} {ρ : Nat → Option Nat} {vt : Nat → Bool} : ∀ {xs : Cs}, xs.all pl = true → WVs σ ρ vt xs xs
  | [], _ => .nil
  | x :: xs, h => by
    simp only [List.all_cons, Bool.and_eq_true] at h
    exact .cons (.keep (by cases x <;> simp_all [pl, closed])) (WVs.refl h.2)

/-- The elements of an object. -/
inductive WL (σ : Store) (ρ : Nat → Option Nat) (vt : Nat → Bool) : List Cs → List Cs → Prop
  | nil : WL σ ρ vt [] []
  | cons {e e' : Cs} {es es' : List Cs} (h : WVs σ ρ vt e e') (t : WL σ ρ vt es es') : WL σ ρ vt (e :: es) (e' :: es')
theorem WL.append {σ : Store} {ρ : Nat → Option Nat} {vt : Nat → Bool} {xs ys zs us : List Cs} (h : WL σ ρ vt xs ys) (k : WL σ ρ vt zs us) : WL σ ρ vt (xs ++ zs) (ys ++ us) := by
  induction h with
  | nil => exact k
  | cons h _ ih => exact .cons h ih
theorem WL.refl {σ : Store} {ρ : Nat → Option Nat} {vt : Nat → Bool} : ∀ {xs : List Cs}, (xs.all fun e => e.all pl) = true → WL σ ρ vt xs xs
  | [], _ => .nil
  | x :: xs, h => by
    simp only [List.all_cons, Bool.and_eq_true] at h
    exact .cons (WVs.refl h.1) (WL.refl h.2)
theorem WL.get {σ : Store} {ρ : Nat → Option Nat} {vt : Nat → Bool} {xs ys : List Cs} (h : WL σ ρ vt xs ys) : xs.length = ys.length ∧ ∀ (j : Nat) x y, xs[j]? = some x → ys[j]? = some y → WVs σ ρ vt x y := by
  induction h with
  | nil => exact ⟨rfl, fun j x y h => by simp at h⟩
  | cons h _ ih =>
    refine ⟨by simp [ih.1], fun j x y h1 h2 => ?_⟩
    cases j with
    | zero => simp at h1 h2; subst h1; subst h2; exact h
    | succ j => exact ih.2 j x y (by simpa using h1) (by simpa using h2)

/-- An object told with less. -/
inductive WO (σ : Store) (ρ : Nat → Option Nat) (vt : Nat → Bool) : Obj → Obj → Prop
  | same (sz : Nat) (sh : Bool) (es : List Cs) : WO σ ρ vt ⟨sz, sh, true, es⟩ ⟨sz, sh, true, es⟩
  | trunc (n : Nat) (sz : Nat) (es : List Cs) : WO σ ρ vt ⟨sz, false, true, es⟩ ⟨sz, false, true, es.take n⟩
  | mk {sz : Nat} {sh fl fl' : Bool} {es es' : List Cs} (h : WL σ ρ vt es es') (hl : (es'.all fun e => e.all leaf) = true) (hf : fl' = true → (es'.all fun e => e.all pl) = true) : WO σ ρ vt ⟨sz, sh, fl, es⟩ ⟨sz, sh, fl', es'⟩

structure WS (σ σ' : Store) (ρ : Nat → Option Nat) (vt : Nat → Bool) (c0 : Nat) : Prop where
  clock : c0 ≤ σ'.clock
  base : ∀ a, a < c0 → ρ a = some a
  new : ∀ a i, ρ a = some i → c0 ≤ a → c0 ≤ i
  lt : ∀ a i, ρ a = some i → i < σ.clock → a < σ'.clock
  inj : ∀ a b i, ρ a = some i → ρ b = some i → a = b
  vlt : ∀ a, vt a = true → a < σ'.clock ∧ c0 ≤ a
  old : ∀ a o', σ'.ob a = some o' → a < σ'.clock
  ob : ∀ a o', σ'.ob a = some o' → (vt a = true → o'.es = []) ∧ ∀ i, ρ a = some i → ∃ o, σ.ob i = some o ∧ WO σ ρ vt o o'

def Ctx.ren (c : Ctx) (ρ : Nat → Option Nat) (vt : Nat → Bool) : Ctx := { c with m := fun a => if vt a = true then some .virt else (ρ a).bind c.m }

theorem ren_m {c : Ctx} {ρ : Nat → Option Nat} {vt : Nat → Bool} {a : Nat} {l : ML} (h : (c.ren ρ vt).m a = some l) : (vt a = true ∧ l = .virt) ∨ (vt a = false ∧ ∃ i, ρ a = some i ∧ c.m i = some l) := by
  simp only [Ctx.ren] at h
  split at h
  · rename_i hv; cases h; exact .inl ⟨hv, rfl⟩
  · rename_i hv
    cases hr : ρ a with
    | none => rw [hr] at h; cases h
    | some i => rw [hr] at h; exact .inr ⟨by simpa using hv, i, rfl, h⟩

section
variable {c : Ctx} {base : Nat} {σ σ' : Store} {ρ : Nat → Option Nat} {vt : Nat → Bool} {c0 : Nat}

theorem wv_rep (hI : Inv σ c base) (hv : ∀ a i, ρ a = some i → vt a = false) {x y : AV} (h : WV σ ρ vt x y) : ∀ {u : Value}, Rep c x u → Rep (c.ren ρ vt) y u := by
  have hm : ∀ a i l, ρ a = some i → c.m i = some l → (c.ren ρ vt).m a = some l := fun a i l h1 h2 => by
    simp only [Ctx.ren, hv a i h1, Bool.false_eq_true, if_false, h1, Option.bind_some, h2]
  induction h with
  | junk x => intro u _; exact .junk
  | keep h => intro u hr; exact Rep.moveC (c := c) (c' := c.ren ρ vt) rfl rfl hr h
  | row h =>
    intro u hr
    cases hr with
    | row L h1 h2 h3 h4 h5 => exact .row L (hm _ _ _ h h1) h2 h3 h4 h5
    | row0 h1 => exact .row0 (hm _ _ _ h h1)
  | nil h =>
    intro u hr; cases hr
    exact .row0 (by simp [Ctx.ren, h])
  | nilsl =>
    intro u hr; cases hr
    exact .sl 0 0 0 (fun _ _ => undef) rfl (Nat.le_refl _) (fun h => absurd rfl h) (fun e he => by cases he) (fun i e j x hi => by simp at hi) (fun i e j x hi => by simp at hi)
  | emp h =>
    intro u hr; cases hr
    exact .row0 (by simp [Ctx.ren, h])
  | empsl =>
    intro u hr; cases hr
    exact .sl 0 0 0 (fun _ _ => undef) rfl (Nat.le_refl _) (fun h => absurd rfl h) (fun e he => by cases he) (fun i e j x hi => by simp at hi) (fun i e j x hi => by simp at hi)
  | nilemp => intro u hr; cases hr; exact .emp
  | view h => intro u hr; exact Rep.moveC (c := c) (c' := c.ren ρ vt) rfl rfl (reify_rep hI _ _ _ _ h hr) rfl
  | ptr h =>
    intro u hr; cases hr with
    | ptr L h1 => exact .ptr L (hm _ _ _ h h1)
  | tptr h =>
    intro u hr; cases hr with
    | tptr L h1 h2 h3 => exact .tptr L (hm _ _ _ h h1) h2 h3
  | slf h =>
    intro u hr; cases hr with
    | slf0 => exact .slf0
    | slf L h1 h2 => exact .slf L (hm _ _ _ h h1) h2
  | slfN => intro u hr; cases hr; exact .slf0
  | slfT h =>
    intro u hr; cases hr with
    | tptr L h1 h2 h3 => exact .slf L (hm _ _ _ h h1) h2
  | trow h =>
    intro u hr; cases hr with
    | trow L h1 h2 h3 h4 h5 h6 => exact .trow L (hm _ _ _ h h1) h2 h3 h4 h5 h6
    | trow0 h1 => exact .trow0 (hm _ _ _ h h1)
  | trowN h =>
    intro u hr; cases hr
    exact .trow0 (by simp [Ctx.ren, h])
  | @vptr id o cs ho hsh he hp =>
    intro u hr; cases hr with
    | ptr L h1 =>
      obtain ⟨arr, T, q1, q2, q3⟩ := (hI.core.obj id o L ho h1).mem
      have q : ∀ j x, cs[j]? = some x → ∃ u, c.w.cell? ⟨L.b, L.o + 0 * L.sz + 0 + j, none⟩ = some u ∧ Rep c x u ∧ c.S ⟨L.b, L.o + 0 * L.sz + 0 + j, none⟩ := fun j x hx => by
        obtain ⟨u, r1, r2, r3⟩ := q3 0 cs j x (by rw [he]; rfl) hx
        exact ⟨u, by rw [cell_of q1]; exact r1, r2, r3 hsh⟩
      refine .vp L.b _ (fun j => ((c.w.cell? ⟨L.b, L.o + 0 * L.sz + 0 + j, none⟩).getD undef)) (fun j x hx => ?_) (fun j x hx => ?_)
      · obtain ⟨u, r1, r2, r3⟩ := q j x hx
        have hpx : pl x = true := List.all_eq_true.1 hp x (List.mem_of_getElem? hx)
        refine ⟨?_, r3, hpx⟩
        show c.w.cell? _ = _
        rw [r1]; rfl
      · obtain ⟨u, r1, r2, r3⟩ := q j x hx
        have hpx : pl x = true := List.all_eq_true.1 hp x (List.mem_of_getElem? hx)
        rw [r1]
        exact Rep.moveC (c := c) (c' := c.ren ρ vt) rfl rfl r2 (by cases x <;> simp_all [pl, closed])
  | @agg xs ys hl h ih =>
    intro u hr; cases hr with
    | agg hl' h' =>
      refine .agg (by rw [hl', hl]) (fun j x u h1 h2 => ?_)
      have hj := (List.getElem?_eq_some_iff.1 h1).1
      exact ih j xs[j] x (by simp [hl, hj]) h1 (h' j xs[j] u (by simp [hl, hj]) h2)
  | @tup xs ys hl h ih =>
    intro u hr; cases hr with
    | tup hl' h' =>
      refine .tup (by rw [hl', hl]) (fun j x u h1 h2 => ?_)
      have hj := (List.getElem?_eq_some_iff.1 h1).1
      exact ih j xs[j] x (by simp [hl, hj]) h1 (h' j xs[j] u (by simp [hl, hj]) h2)
  | @fn f xs ys zs us hl hk h h' ih ih' =>
    intro u hr; cases hr with
    | fn hl1 hl2 h1 h2 =>
      refine .fn (by rw [hl1, hl]) (by rw [hl2, hk]) (fun j x u q1 q2 => ?_) (fun j x u q1 q2 => ?_)
      · have hj := (List.getElem?_eq_some_iff.1 q1).1
        exact ih j xs[j] x (by simp [hl, hj]) q1 (h1 j xs[j] u (by simp [hl, hj]) q2)
      · have hj := (List.getElem?_eq_some_iff.1 q1).1
        exact ih' j zs[j] x (by simp [hk, hj]) q1 (h2 j zs[j] u (by simp [hk, hj]) q2)

theorem wo_get {o o' : Obj} (h : WO σ ρ vt o o') (hfl : o.flat = true → ∀ e ∈ o.es, ∀ x ∈ e, pl x = true) : o'.sz = o.sz ∧ o'.sh = o.sh ∧ (o'.es.length ≤ o.es.length ∧ (o.sh = true → o'.es.length = o.es.length)) ∧ (o'.flat = true → ∀ e ∈ o'.es, ∀ x ∈ e, pl x = true) ∧
    ∀ (i : Nat) e', o'.es[i]? = some e' → ∃ e, o.es[i]? = some e ∧ e'.length = e.length ∧ ∀ (j : Nat) x', e'[j]? = some x' → ∃ x, e[j]? = some x ∧ WV σ ρ vt x x' ∧ leaf x' = true := by
  cases h with
  | same sz sh es =>
    refine ⟨rfl, rfl, ⟨Nat.le_refl _, fun _ => rfl⟩, hfl, fun i e' he => ⟨e', he, rfl, fun j x' hx => ?_⟩⟩
    have hp := hfl rfl e' (List.mem_of_getElem? he) x' (List.mem_of_getElem? hx)
    exact ⟨x', hx, .keep (by cases x' <;> simp_all [pl, closed]), leaf_of_pl hp⟩
  | trunc n sz es =>
    have hsub : ∀ (i : Nat) e', (es.take n)[i]? = some e' → es[i]? = some e' := fun i e' he => by
      rw [List.getElem?_take] at he
      split at he
      · exact he
      · cases he
    refine ⟨rfl, rfl, ⟨by simp; omega, fun h => by simp at h⟩, fun _ e he => hfl rfl e (List.mem_of_mem_take he), fun i e' he => ⟨e', hsub i e' he, rfl, fun j x' hx => ?_⟩⟩
    have hp := hfl rfl e' (List.mem_of_getElem? (hsub i e' he)) x' (List.mem_of_getElem? hx)
    exact ⟨x', hx, .keep (by cases x' <;> simp_all [pl, closed]), leaf_of_pl hp⟩
  | @mk sz sh fl fl' es es' h hl hf =>
    refine ⟨rfl, rfl, ⟨Nat.le_of_eq h.get.1.symm, fun _ => h.get.1.symm⟩, fun hfl' e he x hx => ?_, fun i e' he => ?_⟩
    · exact List.all_eq_true.1 (List.all_eq_true.1 (hf hfl') e he) x hx
    · have hi := (List.getElem?_eq_some_iff.1 he).1
      have hi' : i < es.length := by rw [h.get.1]; exact hi
      have hw := h.get.2 i es[i] e' (by simp [hi']) he
      refine ⟨es[i], by simp [hi'], hw.get.1.symm, fun j x' hx => ?_⟩
      have hj := (List.getElem?_eq_some_iff.1 hx).1
      have hj' : j < es[i].length := by rw [hw.get.1]; exact hj
      exact ⟨es[i][j], by simp [hj'], hw.get.2 j _ x' (by simp [hj']) hx, List.all_eq_true.1 (List.all_eq_true.1 hl e' (List.mem_of_getElem? he)) x' (List.mem_of_getElem? hx)⟩

theorem ws_inv (hI : Inv σ c base) (hv : ∀ a i, ρ a = some i → vt a = false) (h : WS σ σ' ρ vt c0) : Inv σ' (c.ren ρ vt) base := by
  have hat : ∀ {a L}, (c.ren ρ vt).m a = some (.at L) → ∃ i, ρ a = some i ∧ c.m i = some (.at L) := fun {a L} hm => by
    rcases ren_m hm with ⟨_, h2⟩ | ⟨_, h2⟩
    · cases h2
    · exact h2
  refine ⟨⟨?_, ?_, ?_, hI.core.inn, ?_, hI.core.base_le⟩, ?_, h.old⟩
  · intro a o' L ho hm
    obtain ⟨i, hr, hmi⟩ := hat hm
    obtain ⟨o, hoi, hw⟩ := (h.ob a o' ho).2 i hr
    have hok := hI.core.obj i o L hoi hmi
    obtain ⟨h1, h2, h3, h4, h5⟩ := wo_get hw hok.flat
    obtain ⟨arr, T, q1, q2, q3⟩ := hok.mem
    refine ⟨hok.sz.trans h1.symm, hok.base, Nat.le_trans h3.1 hok.tot, fun e he => ?_, fun e he x hx => ?_, h4, arr, T, q1, q2, fun k e' j x' hk hj => ?_⟩
    · obtain ⟨k, hk⟩ := List.mem_iff_getElem?.1 he
      obtain ⟨e0, p1, p2, _⟩ := h5 k e hk
      rw [p2, h1]; exact hok.wid e0 (List.mem_of_getElem? p1)
    · obtain ⟨k, hk⟩ := List.mem_iff_getElem?.1 he
      obtain ⟨e0, p1, p2, p3⟩ := h5 k e hk
      obtain ⟨j, hj⟩ := List.mem_iff_getElem?.1 hx
      exact (p3 j x hj).choose_spec.2.2
    · obtain ⟨e0, p1, p2, p3⟩ := h5 k e' hk
      obtain ⟨x, p4, p5, _⟩ := p3 j x' hj
      obtain ⟨u, r1, r2, r3⟩ := q3 k e0 j x p1 p4
      exact ⟨u, r1, wv_rep hI hv p5 r2, fun hsh => r3 (by rw [← h2]; exact hsh)⟩
  · intro a o' ho hm
    rcases ren_m hm with ⟨h1, _⟩ | ⟨_, i, hr, hmi⟩
    · exact (h.ob a o' ho).1 h1
    · obtain ⟨o, hoi, hw⟩ := (h.ob a o' ho).2 i hr
      have hes := hI.core.virt i o hoi hmi
      cases hw with
      | same sz sh es => exact hes
      | trunc n sz es => simp only at hes ⊢; rw [hes]; simp
      | mk h1 _ _ =>
        have := h1.get.1
        simp only at hes; subst hes
        exact List.eq_nil_of_length_eq_zero (by simpa using this.symm)
  · intro a b o o' L L' ho ho' hm hm' hab
    obtain ⟨i, hr, hmi⟩ := hat hm
    obtain ⟨j, hs, hmj⟩ := hat hm'
    obtain ⟨p, hp, _⟩ := (h.ob a o ho).2 i hr
    obtain ⟨q, hq, _⟩ := (h.ob b o' ho').2 j hs
    exact hI.core.apart i j p q L L' hp hq hmi hmj (fun e => hab (h.inj a b i hr (by rw [hs, e])))
  · intro a o' L ho hm x hx hb
    obtain ⟨i, hr, hmi⟩ := hat hm
    obtain ⟨o, hoi, hw⟩ := (h.ob a o' ho).2 i hr
    have hok := hI.core.obj i o L hoi hmi
    obtain ⟨h1, h2, h3, h4, h5⟩ := wo_get hw hok.flat
    rcases hI.core.free i o L hoi hmi x hx hb with hf | ⟨hf, hg⟩
    · exact .inl hf
    · exact .inr ⟨by rw [h2]; exact hf, by rw [h3.2 hf]; exact hg⟩
  · intro a l hm
    rcases ren_m hm with ⟨h1, _⟩ | ⟨_, i, hr, hmi⟩
    · exact (h.vlt a h1).1
    · exact h.lt a i hr (hI.dom i l hmi)

/-- A state told with less. -/
theorem SR.weak {c00 : Ctx} {σ00 : Store} (hI00 : Inv σ00 c00 base) (hfull : ∀ id, id < σ00.clock → c00.m id ≠ none) {s : FS} {a : Act} (hS : SR base c00 σ00 s c a) (hv : ∀ a i, ρ a = some i → vt a = false)
    (hW : WS s.σ σ' ρ vt σ00.clock) {tm' : Cs} (htm : WVs s.σ ρ vt s.tm tm') : SR base c00 σ00 ⟨tm', σ', s.low, s.c0⟩ (c.ren ρ vt) a := by
  obtain ⟨hl, hw⟩ := htm.get
  have hle : ∀ id, id < σ00.clock → (c.ren ρ vt).m id = c.m id := fun id hid => by
    simp only [Ctx.ren, hv id id (hW.base id hid), Bool.false_eq_true, if_false, hW.base id hid, Option.bind_some]
  refine ⟨ws_inv hS.inv hv hW, ⟨hS.ext.S, hS.ext.cell, fun id l hl => ?_, hS.ext.size, hS.ext.os, hS.ext.tape, hS.ext.output, hS.ext.ty⟩, ⟨hS.fr.block, ?_, ?_, hS.fr.snew⟩, ⟨hW.clock, ?_⟩, hS.c0, ?_, hS.sz.trans hl, hS.dfr, ?_⟩
  · rw [hle id (hI00.dom id l hl)]; exact hS.ext.m id l hl
  · intro id l hm
    by_cases hid : id < σ00.clock
    · rw [hle id hid] at hm; exact hS.fr.mnew id l hm
    · right; omega
  · intro id L hm hn
    by_cases hid : id < σ00.clock
    · rw [hle id hid] at hm; exact hS.fr.bnew id L hm hn
    · rcases ren_m hm with ⟨_, h2⟩ | ⟨_, i, hr, hmi⟩
      · cases h2
      · have hge := hW.new id i hr (by omega)
        exact hS.fr.bnew i L hmi (fun h => by have := hI00.dom i _ h; omega)
  · intro id o ho
    by_cases hid : id < σ00.clock
    · obtain ⟨o0, h1, _⟩ := (hW.ob id o ho).2 id (hW.base id hid)
      rcases hS.go.live id o0 h1 with h2 | ⟨h2, _⟩
      · exact .inl h2
      · omega
    · exact .inr ⟨by omega, hW.old id o ho⟩
  · intro t
    show Rep _ (tm'.getD t .junk) _
    rw [List.getD_eq_getElem?_getD]
    cases h1 : tm'[t]? with
    | none => exact .junk
    | some y =>
      have ht := (List.getElem?_eq_some_iff.1 h1).1
      have h2 := hS.tm t
      rw [List.getD_eq_getElem?_getD] at h2
      have h3 : s.tm[t]? = some (s.tm[t]'(by omega)) := by simp
      rw [h3] at h2
      exact wv_rep hS.inv hv (hw t _ y h3 h1) h2
  · intro id hid hm
    exact absurd hm (hfull id hid)

/-- Rows come to be shared. -/
theorem SR.share {c00 : Ctx} {σ00 : Store} (hI00 : Inv σ00 c00 base) (hfull : ∀ id, id < σ00.clock → c00.m id ≠ none) {s : FS} {a : Act} (hS : SR base c00 σ00 s c a) (ids : List Nat) :
    ∃ c', c'.w = c.w ∧ SR base c00 σ00 ⟨s.tm, shareAll s.σ ids, omin s.low (cut s.c0 (freshL s.σ ids)), s.c0⟩ c' a := by
  obtain ⟨c1, hw, hm, he, hi, hfr, hck⟩ := shareAll_ok hS.inv ids
  refine ⟨c1, hw, hi, hS.ext.trans he, ?_, hS.go.trans (StGo.shareAll _ _), hS.c0, fun t => (hS.tm t).mono he, hS.sz, hS.dfr, fun id hid hm => absurd hm (hfull id hid)⟩
  have h1 := Fr.trans hS.fr hfr hS.go.clock hS.ext hS.inv.core hS.go.live' hI00.dom
  show Fr c00 σ00 (omin s.low (cut s.c0 _)) c1
  rw [hS.c0]
  exact Fr.low h1 hI00.dom (fun id l => omin_cut id l)
end

end Go.Bx

/- Triples: what runs from a state ends so. (Own text.) -/
namespace Go.Bx
set_option linter.unusedVariables false
set_option linter.unusedSimpArgs false
set_option linter.unusedSectionVars false
set_option linter.unusedVariables false
set_option linter.unusedSectionVars false
set_option linter.unusedSimpArgs false

/-- A call under way. -/
structure Under (E : Env) (base : Nat) (c00 : Ctx) (σ00 : Store) : Prop where
  tab : TabOK E.P E.T
  mix : E.P.follows .mixedOrders = true
  inv : Inv σ00 c00 base
  gl : GlOK E c00
  full : ∀ id, id < σ00.clock → c00.m id ≠ none
  np : ∀ V, ¬ E.pan V

/-- What is told of an end. -/
def SRx (base : Nat) (c00 : Ctx) (σ00 : Store) : Ex → FS → Ctx → Act → Prop
  | .pan _, s, c, a => a.defers = c00.dfr ∧ Ext c00 c ∧ Fr c00 σ00 s.low c
  | _, s, c, a => SR base c00 σ00 s c a
abbrev Post := Ex → FS → Prop

/-- From what is told of a state, all that is asked of the end. -/
def Tw (base : Nat) (c00 : Ctx) (σ00 : Store) (F : (Exit → Act → World → Prop) → Act → World → Prop) (s : FS) (R : Post) : Prop :=
  ∀ (cx : Ctx) (a : Act), SR base c00 σ00 s cx a → ∀ Q : Exit → Act → World → Prop, (∀ ex s1 a' c', R ex s1 → SRx base c00 σ00 ex s1 c' a' → Q (exq ex) a' c'.w) → F Q a cx.w

/-- The code. -/
def Wp (E : Env) (base : Nat) (c00 : Ctx) (σ00 : Store) (c : Code) (s : FS) (R : Post) : Prop := Tw base c00 σ00 (fun Q a w => c.wp E.P Q a w) s R
/-- From a loop's head. -/
def WpL (E : Env) (base : Nat) (c00 : Ctx) (σ00 : Store) (b : Code) (s : FS) (R : Post) : Prop := Tw base c00 σ00 (fun Q a w => From E.P (.inLoop b) b Q a w) s R
/-- From a place within a scope. -/
def WpS (E : Env) (base : Nat) (c00 : Ctx) (σ00 : Store) (b rest : Code) (s : FS) (R : Post) : Prop := Tw base c00 σ00 (fun Q a w => From E.P (.inScope b) rest Q a w) s R

section
variable {E : Env} {base : Nat} {c00 : Ctx} {σ00 : Store} {s : FS} {R R' : Post} {F : (Exit → Act → World → Prop) → Act → World → Prop}

theorem Tw.mono (h : Tw base c00 σ00 F s R) (k : ∀ ex s1, R ex s1 → R' ex s1) : Tw base c00 σ00 F s R' :=
  fun cx a hS Q hQ => h cx a hS Q fun ex s1 a' c' hr hs => hQ ex s1 a' c' (k ex s1 hr) hs

theorem Tw.weak (hU : Under E base c00 σ00) {ρ : Nat → Option Nat} {vt : Nat → Bool} {tm' : Cs} {σ' : Store} (hv : ∀ a i, ρ a = some i → vt a = false) (hW : WS s.σ σ' ρ vt σ00.clock) (htm : WVs s.σ ρ vt s.tm tm')
    (h : Tw base c00 σ00 F ⟨tm', σ', s.low, s.c0⟩ R) : Tw base c00 σ00 F s R := fun cx a hS Q hQ => by
  have := h _ a (hS.weak hU.inv hU.full hv hW htm) Q hQ
  exact this

theorem Tw.share (hU : Under E base c00 σ00) (ids : List Nat) (h : Tw base c00 σ00 F ⟨s.tm, shareAll s.σ ids, omin s.low (cut s.c0 (freshL s.σ ids)), s.c0⟩ R) : Tw base c00 σ00 F s R := fun cx a hS Q hQ => by
  obtain ⟨c', hw, hS'⟩ := hS.share hU.inv hU.full ids
  rw [← hw]; exact h c' a hS' Q hQ

/-- What comes behind. -/
def Then (E : Env) (base : Nat) (c00 : Ctx) (σ00 : Store) (b : Code) (R : Post) : Post
  | .nrm, s => Wp E base c00 σ00 b s R
  | ex, s => R ex s
def InBlk (id : Nat) (R : Post) : Post
  | .exit id', s => if id' = id then R .nrm s else R (.exit id') s
  | ex, s => R ex s
def Again (E : Env) (base : Nat) (c00 : Ctx) (σ00 : Store) (b : Code) (R : Post) : Post
  | .nrm, s => WpL E base c00 σ00 b s R
  | ex, s => R ex s
def Jump (E : Env) (base : Nat) (c00 : Ctx) (σ00 : Store) (b : Code) (R : Post) : Post
  | .goto l, s => match findLabel b l with
    | some rest => WpS E base c00 σ00 b rest s R
    | none => R (.goto l) s
  | ex, s => R ex s

theorem Wp.skip (h : R .nrm s) : Wp E base c00 σ00 .skip s R := fun cx a hS Q hQ => wp_skip (hQ .nrm s a cx h hS)
theorem Wp.label {l : Nat} (h : R .nrm s) : Wp E base c00 σ00 (.label l) s R := fun cx a hS Q hQ => wp_label (hQ .nrm s a cx h hS)
theorem Wp.exit {id : Nat} (h : R (.exit id) s) : Wp E base c00 σ00 (.exit id) s R := fun cx a hS Q hQ => wp_exit (hQ (.exit id) s a cx h hS)
theorem Wp.goto {l : Nat} (h : R (.goto l) s) : Wp E base c00 σ00 (.goto l) s R := fun cx a hS Q hQ => wp_goto (hQ (.goto l) s a cx h hS)
theorem Wp.ret (h : R .ret s) : Wp E base c00 σ00 .ret s R := fun cx a hS Q hQ => wp_ret (hQ .ret s a cx h hS)

theorem Wp.seq {x y : Code} (h : Wp E base c00 σ00 x s (Then E base c00 σ00 y R)) : Wp E base c00 σ00 (.seq x y) s R := fun cx a hS Q hQ =>
  wp_seq (h cx a hS _ fun ex s1 a' c' hr hs => by
    cases ex with
    | nrm => exact hr c' a' hs Q hQ
    | _ => exact hQ _ s1 a' c' hr hs)

theorem Wp.region (hU : Under E base c00 σ00) {ci : CI} (hci : CIOK E base ci) {id : Nat} {ops : Array Oper} {d : Bool} {s1 : FS} (h : evRegion E ci ops d s = some s1) (k : R .nrm s1) : Wp E base c00 σ00 (.region id ops d) s R := fun cx a hS Q hQ =>
  region_ok hU.tab hci hU.inv hU.gl hU.mix hS h (fun a' c' hs => hQ .nrm s1 a' c' k hs) (fun V _ _ hV => absurd hV (hU.np V))

theorem Wp.cond (hU : Under E base c00 σ00) {q : Operand} {x y : Code} {t : Bool} (ht : evOp E.gl s.tm q = .v (.bool t)) (h1 : t = true → Wp E base c00 σ00 x s R) (h2 : t = false → Wp E base c00 σ00 y s R) : Wp E base c00 σ00 (.cond q x y) s R := fun cx a hS Q hQ => by
  have hr := evOp_reps (E := E) (hU.gl.mono hS.ext) (x := q) (tm := s.tm) (a := a) (fun t _ => hS.tm t)
  rw [ht] at hr
  have hv : a.eval q = .bool t := by
    generalize a.eval q = u at hr
    cases hr; rfl
  refine wp_cond hv ?_
  cases t with
  | true => exact h1 rfl cx a hS Q hQ
  | false => exact h2 rfl cx a hS Q hQ

theorem Wp.block {id : Nat} {b : Code} (h : Wp E base c00 σ00 b s (InBlk id R)) : Wp E base c00 σ00 (.block id b) s R := fun cx a hS Q hQ =>
  wp_block (h cx a hS _ fun ex s1 a' c' hr hs => by
    cases ex with
    | exit id' =>
      simp only [exq, Exit.inBlock, InBlk] at hr ⊢
      by_cases hid : id' = id
      · rw [if_pos hid] at hr ⊢; exact hQ .nrm s1 a' c' hr hs
      · rw [if_neg hid] at hr ⊢; exact hQ _ s1 a' c' hr hs
    | _ => exact hQ _ s1 a' c' hr hs)

theorem Wp.loop {b : Code} (h : WpL E base c00 σ00 b s R) : Wp E base c00 σ00 (.loop b) s R := fun cx a hS Q hQ => wp_of_loop (h cx a hS Q hQ)

theorem WpL.step {b : Code} (h : Wp E base c00 σ00 b s (Again E base c00 σ00 b R)) : WpL E base c00 σ00 b s R := fun cx a hS Q hQ => by
  have hwp : b.wp E.P (Exit.then (From E.P (.inLoop b) b Q) Q) a cx.w := by
    refine h cx a hS _ fun ex s1 a' c' hr hs => ?_
    cases ex with
    | nrm => exact hr c' a' hs Q hQ
    | _ => exact hQ _ s1 a' c' hr hs
  intro fr k cs
  obtain ⟨e, a₁, w₁, hq, harr⟩ := hwp fr (.inLoop b :: k) cs
  cases e with
  | normal =>
    obtain ⟨e₂, a₂, w₂, hq₂, harr₂⟩ := hq fr k cs
    exact ⟨e₂, a₂, w₂, hq₂, .of_steps (Steps.trans harr (.one step_inLoop)) harr₂⟩
  | exit id => exact ⟨_, a₁, w₁, hq, .pass (x := .inLoop b) rfl (fun _ _ => .inl (by simp)) harr⟩
  | goto l => exact ⟨_, a₁, w₁, hq, .pass (x := .inLoop b) rfl (fun _ _ => .inl (by simp)) harr⟩
  | ret => exact ⟨_, a₁, w₁, hq, .pass (x := .inLoop b) rfl (fun _ _ => .inl (by simp)) harr⟩
  | panic ch => exact ⟨_, a₁, w₁, hq, .pass (x := .inLoop b) rfl (fun _ _ => .inl (by simp)) harr⟩
  | outgrown => exact ⟨_, a₁, w₁, hq, .pass (x := .inLoop b) rfl (fun _ _ => .inl (by simp)) harr⟩

theorem Wp.scope {b : Code} (h : WpS E base c00 σ00 b b s R) : Wp E base c00 σ00 (.scope b) s R := fun cx a hS Q hQ => wp_of_scope (h cx a hS Q hQ)
theorem WpS.step {b rest : Code} (h : Wp E base c00 σ00 rest s (Jump E base c00 σ00 b R)) : WpS E base c00 σ00 b rest s R := fun cx a hS Q hQ =>
  scope_from (h cx a hS _ fun ex s1 a' c' hr hs => by
    cases ex with
    | goto l =>
      simp only [Jump] at hr
      simp only [exq, Exit.jumps]
      cases hl : findLabel b l with
      | none => rw [hl] at hr; exact hQ _ s1 a' c' hr hs
      | some rest' => rw [hl] at hr; exact hr c' a' hs Q hQ
    | _ => exact hQ _ s1 a' c' hr hs)
end

/-! ### calls -/

/-- A call that leaves every elder object as it is, whatever is about it. -/
def PureOK (E : Env) (f : FuncId) (args : Cs) (r : AV) : Prop := ∀ (base : Nat) (σ : Store), CallOK E base f args σ r σ none

def resOK (r : AV) : Bool := match r with
  | .tup vs => vs.all fun v => (match v with
    | .tup _ => false
    | _ => true) && (cells v).all closed
  | x => (cells x).all closed

def Ctx.none (c : Ctx) : Ctx := { c with m := fun _ => .none, dfr := [] }

theorem none_inv {σ : Store} {c : Ctx} {base : Nat} (hI : Inv σ c base) : Inv nilStore c.none base where
  core := {
    obj := fun _ _ _ h => (by cases h)
    virt := fun _ _ h => (by cases h)
    apart := fun _ _ _ _ _ _ h => (by cases h)
    inn := hI.core.inn
    free := fun _ _ _ h => (by cases h)
    base_le := hI.core.base_le }
  dom := fun _ _ h => (by cases h)
  old := fun _ _ h => (by cases h)

/-- Two stores beside each other. -/
theorem inv_union {σ τ : Store} {c c1 : Ctx} {base : Nat} (hI : Inv σ c base) (h1 : Inv τ c1 base) (e : Ext c.none c1) (hf : Fr c.none nilStore none c1) (hlow : ∀ id, id < σ.clock → c1.m id = none) (hcl : σ.clock ≤ τ.clock) {υ : Store}
    (hυc : υ.clock = τ.clock) (hυ : ∀ id, υ.ob id = if id < σ.clock then σ.ob id else τ.ob id) :
    ∃ c', c'.w = c1.w ∧ Ext c c' ∧ Ext c1 c' ∧ Inv υ c' base ∧ Fr c σ none c' := by
  have hblk : ∀ b, b < c.w.heap.size → c1.w.heap[b]? = c.w.heap[b]? := fun b hb => hf.block b hb (fun _ _ _ h => by cases h)
  have hsn : ∀ a, c1.S a → c.S a ∨ c.w.heap.size ≤ a.block := fun a ha => by
    rcases hf.snew a ha with h | h | ⟨_, _, _, h, _⟩
    · exact .inl h
    · exact .inr h
    · cases h
  have hbn : ∀ id L, c1.m id = some (.at L) → c.w.heap.size ≤ L.b := fun id L hm => by
    rcases hf.bnew id L hm (by simp [Ctx.none]) with h | ⟨_, _, _, h, _⟩
    · exact h
    · cases h
  have e1 : Ext c { w := c1.w, S := c1.S, m := fun id => if id < σ.clock then c.m id else c1.m id } :=
    ⟨e.S, e.cell, fun id l hl => by simp only; rw [if_pos (hI.dom id l hl)]; exact hl, e.size, e.os, e.tape, e.output, e.ty⟩
  have e2 : Ext c1 { w := c1.w, S := c1.S, m := fun id => if id < σ.clock then c.m id else c1.m id } :=
    ⟨fun _ h => h, fun _ _ => rfl, fun id l hl => by
      simp only; rw [if_neg (fun hlt => by rw [hlow id hlt] at hl; cases hl)]; exact hl, Nat.le_refl _, rfl, rfl, rfl, fun _ _ h => h⟩
  refine ⟨{ w := c1.w, S := c1.S, m := fun id => if id < σ.clock then c.m id else c1.m id }, rfl, e1, e2, ⟨⟨?_, ?_, ?_, h1.core.inn, ?_, Nat.le_trans hI.core.base_le e.size⟩, ?_, ?_⟩, ?_⟩
  · intro id o L ho hm
    rw [hυ] at ho; simp only at hm
    split at ho
    · rename_i hid; rw [if_pos hid] at hm
      exact (hI.core.obj id o L ho hm).mono e1 (hblk _ (hI.core.b_lt ho hm))
    · rename_i hid; rw [if_neg hid] at hm
      exact (h1.core.obj id o L ho hm).mono e2 rfl
  · intro id o ho hm
    rw [hυ] at ho; simp only at hm
    split at ho
    · rename_i hid; rw [if_pos hid] at hm; exact hI.core.virt id o ho hm
    · rename_i hid; rw [if_neg hid] at hm; exact h1.core.virt id o ho hm
  · intro id id' o o' L L' ho ho' hm hm' hne
    rw [hυ] at ho ho'; simp only at hm hm'
    split at ho
    · rename_i hid; rw [if_pos hid] at hm
      split at ho'
      · rename_i hid'; rw [if_pos hid'] at hm'; exact hI.core.apart id id' o o' L L' ho ho' hm hm' hne
      · rename_i hid'; rw [if_neg hid'] at hm'
        have := hI.core.b_lt ho hm; have := hbn _ _ hm'; omega
    · rename_i hid; rw [if_neg hid] at hm
      split at ho'
      · rename_i hid'; rw [if_pos hid'] at hm'
        have := hI.core.b_lt ho' hm'; have := hbn _ _ hm; omega
      · rename_i hid'; rw [if_neg hid'] at hm'; exact h1.core.apart id id' o o' L L' ho ho' hm hm' hne
  · intro id o L ho hm a ha hb
    rw [hυ] at ho; simp only at hm
    split at ho
    · rename_i hid; rw [if_pos hid] at hm
      rcases hsn a ha with h | h
      · exact hI.core.free id o L ho hm a h hb
      · have := hI.core.b_lt ho hm; omega
    · rename_i hid; rw [if_neg hid] at hm; exact h1.core.free id o L ho hm a ha hb
  · intro id l hm
    simp only at hm
    rw [hυc]
    split at hm
    · rename_i hid; exact Nat.lt_of_lt_of_le hid hcl
    · exact h1.dom id l hm
  · intro id o ho
    rw [hυ] at ho; rw [hυc]
    split at ho
    · rename_i hid; exact Nat.lt_of_lt_of_le hid hcl
    · exact h1.old id o ho
  · refine ⟨fun b hb _ => hblk b hb, fun id l hl => ?_, fun id L hl hn => ?_, fun a ha => ?_⟩
    · simp only at hl
      split at hl
      · exact .inl hl
      · right; omega
    · simp only at hl
      split at hl
      · exact absurd hl hn
      · exact .inl (hbn id L hl)
    · rcases hsn a ha with h | h
      · exact .inl h
      · exact .inr (.inl h)

/-! ### results, in a store of their own and beside others -/
def shr (k : Nat) : Nat → Option Nat := fun a => if k ≤ a then some (a - k) else none

structure Beside (σ0 σ τ : Store) : Prop where
  clock : σ.clock = τ.clock + σ0.clock
  ob : ∀ id, σ.ob id = if id < σ0.clock then σ0.ob id else τ.ob (id - σ0.clock)

theorem Beside.new {σ0 σ τ : Store} (h : Beside σ0 σ τ) (o : Obj) : Beside σ0 (σ.new o) (τ.new o) :=
  ⟨by simp [Store.new, h.clock]; omega, fun id => by
    simp only [Store.new, h.ob, h.clock]
    by_cases h1 : id < σ0.clock
    · rw [if_neg (by omega)]; simp [h1]
    · by_cases h2 : id = τ.clock + σ0.clock
      · subst h2; rw [if_pos rfl, if_neg h1, if_pos (by omega)]
      · rw [if_neg h2, if_neg h1, if_neg h1, if_neg (by omega)]⟩

theorem beside1 {σ0 σ τ : Store} (h : Beside σ0 σ τ) {x : AV} (hx : closed x = true) (ρσ : Store) :
    WV ρσ (shr σ0.clock) (fun _ => false) (import1 τ x).1 (import1 σ x).1 ∧ Beside σ0 (import1 σ x).2 (import1 τ x).2 := by
  unfold import1
  split
  · exact ⟨.row (by simp [shr, h.clock]), h.new _⟩
  · exact ⟨.keep hx, h⟩

theorem besideL {σ0 : Store} (ρσ : Store) : ∀ (xs : Cs) {σ τ : Store}, Beside σ0 σ τ → xs.all closed = true →
    WVs ρσ (shr σ0.clock) (fun _ => false) (importL τ xs).1 (importL σ xs).1 ∧ Beside σ0 (importL σ xs).2 (importL τ xs).2
  | [], σ, τ, h, _ => ⟨.nil, h⟩
  | x :: xs, σ, τ, h, hx => by
    simp only [List.all_cons, Bool.and_eq_true] at hx
    have h1 := beside1 h hx.1 ρσ
    have h2 := besideL ρσ xs h1.2 hx.2
    exact ⟨.cons h1.1 h2.1, h2.2⟩

theorem beside2 {σ0 σ τ : Store} (h : Beside σ0 σ τ) {x : AV} (hx : (cells x).all closed = true) (ρσ : Store) :
    WV ρσ (shr σ0.clock) (fun _ => false) (import2 τ x).1 (import2 σ x).1 ∧ Beside σ0 (import2 σ x).2 (import2 τ x).2 := by
  unfold import2
  split
  · have := besideL ρσ _ h (by simpa [cells] using hx)
    exact ⟨this.1.aggW, this.2⟩
  · rename_i hne
    refine beside1 h ?_ ρσ
    cases x with
    | agg cs => exact absurd rfl (hne cs)
    | _ => simpa [cells] using hx

theorem beside2L {σ0 : Store} (ρσ : Store) : ∀ (xs : Cs) {σ τ : Store}, Beside σ0 σ τ → (xs.all fun v => (cells v).all closed) = true →
    WVs ρσ (shr σ0.clock) (fun _ => false) (import2L τ xs).1 (import2L σ xs).1 ∧ Beside σ0 (import2L σ xs).2 (import2L τ xs).2
  | [], σ, τ, h, _ => ⟨.nil, h⟩
  | x :: xs, σ, τ, h, hx => by
    simp only [List.all_cons, Bool.and_eq_true] at hx
    have h1 := beside2 h hx.1 ρσ
    have h2 := beside2L ρσ xs h1.2 hx.2
    exact ⟨.cons h1.1 h2.1, h2.2⟩

theorem besideAV {σ0 σ τ : Store} (h : Beside σ0 σ τ) {r : AV} (hr : resOK r = true) (ρσ : Store) :
    WV ρσ (shr σ0.clock) (fun _ => false) (importAV τ r).1 (importAV σ r).1 ∧ Beside σ0 (importAV σ r).2 (importAV τ r).2 := by
  unfold importAV
  split
  · rename_i vs
    have := beside2L ρσ vs h (by
      simp only [resOK] at hr
      rw [List.all_eq_true] at hr ⊢
      intro v hv; have := hr v hv; simp only [Bool.and_eq_true] at this; exact this.2)
    exact ⟨this.1.tupW, this.2⟩
  · rename_i hne
    refine beside2 h ?_ ρσ
    cases r with
    | tup vs => exact absurd rfl (hne vs)
    | _ => simpa [resOK] using hr

theorem import_flat1 {σ : Store} {x : AV} (h : ∀ id o, σ.ob id = some o → o.flat = true) : ∀ id o, (import1 σ x).2.ob id = some o → o.flat = true := by
  unfold import1
  split
  · intro id o ho
    simp only [Store.new] at ho
    split at ho
    · cases ho; rfl
    · exact h id o ho
  · exact h
theorem import_flatL : ∀ (xs : Cs) {σ : Store}, (∀ id o, σ.ob id = some o → o.flat = true) → ∀ id o, (importL σ xs).2.ob id = some o → o.flat = true
  | [], σ, h => h
  | x :: xs, σ, h => import_flatL xs (import_flat1 h)
theorem import_flat2 {σ : Store} {x : AV} (h : ∀ id o, σ.ob id = some o → o.flat = true) : ∀ id o, (import2 σ x).2.ob id = some o → o.flat = true := by
  unfold import2
  split
  · exact import_flatL _ h
  · exact import_flat1 h
theorem import_flat2L : ∀ (xs : Cs) {σ : Store}, (∀ id o, σ.ob id = some o → o.flat = true) → ∀ id o, (import2L σ xs).2.ob id = some o → o.flat = true
  | [], σ, h => h
  | x :: xs, σ, h => import_flat2L xs (import_flat2 h)
theorem import_flat {σ : Store} {x : AV} (h : ∀ id o, σ.ob id = some o → o.flat = true) : ∀ id o, (importAV σ x).2.ob id = some o → o.flat = true := by
  unfold importAV
  split
  · exact import_flat2L _ h
  · exact import_flat2 h

theorem pure_end {base : Nat} {c : Ctx} {σ : Store} (hI : Inv σ c base) {r : AV} (hr : resOK r = true) {e : Ending} {w : World} (h : EndOf base c.none nilStore r nilStore none e w) : EndOf base c σ r σ none e w := by
  obtain ⟨v, c1, rfl, rfl, he, hi, hrep, hfr⟩ := h
  have hb0 : Beside σ σ nilStore := ⟨by simp [nilStore], fun id => by
    split
    · rfl
    · rename_i hid
      cases ho : σ.ob id with
      | none => rfl
      | some o => have := hI.old id o ho; omega⟩
  obtain ⟨hwv, hb⟩ := besideAV hb0 hr (importAV nilStore r).2
  have hfl : ∀ id o, (importAV nilStore r).2.ob id = some o → o.flat = true := import_flat (fun id o h => by cases h)
  have hv : ∀ a i, shr σ.clock a = some i → (fun _ : Nat => false) a = false := fun _ _ _ => rfl
  have hws : WS (importAV nilStore r).2 ⟨(importAV σ r).2.clock, fun id => if σ.clock ≤ id then (importAV nilStore r).2.ob (id - σ.clock) else none⟩ (shr σ.clock) (fun _ => false) 0 := by
    refine ⟨Nat.zero_le _, fun a h => by omega, fun _ _ _ _ => Nat.zero_le _, fun a i h hi => ?_, fun a b i h h' => ?_, fun a h => by simp at h, fun a o ho => ?_, fun a o ho => ⟨fun h => by simp at h, fun i h => ?_⟩⟩
    · simp only [shr] at h
      split at h
      · have e : a - σ.clock = i := by simpa using h
        have hb' := hb.clock
        simp only
        omega
      · cases h
    · simp only [shr] at h h'
      split at h
      · split at h'
        · simp only [Option.some.injEq] at h h'; omega
        · cases h'
      · cases h
    · simp only at ho
      split at ho
      · have h1 := hi.old _ _ ho; have h2 := hb.clock; show a < (importAV σ r).2.clock; omega
      · cases ho
    · simp only [shr] at h
      split at h
      · rename_i hle; simp only [Option.some.injEq] at h; subst h
        simp only [hle, if_true] at ho
        refine ⟨o, ho, ?_⟩
        have := hfl _ _ ho
        obtain ⟨sz, sh, fl, es⟩ := o
        simp only at this; subst this
        exact .same _ _ _
      · cases h
  have hi' : Inv _ (c1.ren (shr σ.clock) fun _ => false) base := ws_inv hi hv hws
  have hrep' : Rep (c1.ren (shr σ.clock) fun _ => false) (importAV σ r).1 v := wv_rep hi hv hwv hrep
  have hme : ∀ a l, (c1.ren (shr σ.clock) fun _ => false).m a = some l → σ.clock ≤ a ∧ c1.m (a - σ.clock) = some l := fun a l h => by
    rcases ren_m h with ⟨h1, _⟩ | ⟨_, i, h1, h2⟩
    · simp at h1
    · simp only [shr] at h1
      split at h1
      · rename_i hle; simp only [Option.some.injEq] at h1; subst h1; exact ⟨hle, h2⟩
      · cases h1
  have he' : Ext c.none (c1.ren (shr σ.clock) fun _ => false) := ⟨he.S, he.cell, fun id l h => (by cases h), he.size, he.os, he.tape, he.output, he.ty⟩
  have hf' : Fr c.none nilStore none (c1.ren (shr σ.clock) fun _ => false) := ⟨hfr.block, fun id l h => .inr (Nat.zero_le _), fun id L h _ => (by
    obtain ⟨_, h2⟩ := hme id _ h
    rcases hfr.bnew _ L h2 (by simp [Ctx.none]) with h | ⟨_, _, _, h, _⟩
    · exact .inl h
    · cases h), hfr.snew⟩
  obtain ⟨c', q1, q2, q3, q4, q5⟩ := inv_union (σ := σ) (υ := (importAV σ r).2) hI hi' he' hf' (fun id hid => by
    cases hm : (c1.ren (shr σ.clock) fun _ => false).m id with
    | none => rfl
    | some l => have := (hme id l hm).1; omega) (by rw [hb.clock]; simp) rfl (fun id => by
    rw [hb.ob]
    split
    · rfl
    · rename_i hid; simp only [show σ.clock ≤ id by omega, if_true])
  exact ⟨v, c', rfl, q1, q2, q4, hrep'.mono q3, q5⟩

section
variable {E : Env} {base : Nat} {c00 : Ctx} {σ00 : Store} {s : FS} {R : Post} {b : Code}
/-- What is told by the second is told by the first. -/
def Wk (base : Nat) (c00 : Ctx) (σ00 : Store) (s1 s2 : FS) : Prop := ∀ cx a, SR base c00 σ00 s1 cx a → ∃ c', c'.w = cx.w ∧ SR base c00 σ00 s2 c' a
theorem Wk.refl : Wk base c00 σ00 s s := fun cx a h => ⟨cx, rfl, h⟩
theorem Wk.trans {s1 s2 s3 : FS} (h : Wk base c00 σ00 s1 s2) (k : Wk base c00 σ00 s2 s3) : Wk base c00 σ00 s1 s3 := fun cx a hS => by
  obtain ⟨c1, h1, h2⟩ := h cx a hS
  obtain ⟨c2, h3, h4⟩ := k c1 a h2
  exact ⟨c2, h3.trans h1, h4⟩
theorem Wk.tw {F : (Exit → Act → World → Prop) → Act → World → Prop} {s1 s2 : FS} (h : Wk base c00 σ00 s1 s2) (k : Tw base c00 σ00 F s2 R) : Tw base c00 σ00 F s1 R := fun cx a hS Q hQ => by
  obtain ⟨c1, h1, h2⟩ := h cx a hS
  rw [← h1]; exact k c1 a h2 Q hQ
end

/-- A state from which the call returns this (told with less, maybe). -/
def Rt (E : Env) (base : Nat) (c00 : Ctx) (fn : Func) (r : AV) (s : FS) : Prop := ∃ s2, Wk base c00 nilStore s s2 ∧ evReturn E.T nilStore fn s2 = some (r, nilStore, none)

theorem moveCells {c c' : Ctx} (hw : c'.w = c.w) (hS : c'.S = c.S) {x : AV} {u : Value} (h : Rep c x u) (hp : (cells x).all closed = true) : Rep c' x u := by
  cases x with
  | agg cs =>
    cases h with
    | agg hl hh => exact .agg hl fun j x u h1 h2 => Rep.moveC hw hS (hh j x u h1 h2) (List.all_eq_true.1 hp x (List.mem_of_getElem? h1))
  | _ => exact Rep.moveC hw hS h (by simpa [cells] using hp)

/-- A FUNCTION'S CONTRACT, from its body's run in a store of its own. -/
theorem pure_of_wp {E : Env} (hT : TabOK E.P E.T) (hmix : E.P.follows .mixedOrders = true) {f : FuncId} {fn : Func} {body : Code} {nt : Nat} {args : Cs} {r : AV} (hf : E.P.funcs[f]? = some fn) (hb : fn.body = some body) (hn : fn.ntmps = nt)
    (hname : fn.name ≠ "runtime.NumGoroutine") (ha : (args.all fun x => (cells x).all closed) = true) (hr : resOK r = true) (hgl : ∀ g, closed (E.gl g) = true)
    (h : ∀ (base : Nat) (c00 : Ctx), Under E base c00 nilStore → Wp E base c00 nilStore body ⟨args ++ List.replicate (nt - args.length) (.v undef), nilStore, none, 0⟩ (fun ex s => (ex = .ret ∨ ex = .nrm) ∧ Rt E base c00 fn r s)) (hnp : ∀ V, ¬ E.pan V := by exact fun _ h => h) :
    PureOK E f args r := by
  subst hn
  intro base σ
  refine call_hand hf hb hname fun c us hI hG hus => ?_
  have hus' : Reps c.none args us := ⟨hus.1, fun j x u h1 h2 => moveCells (c := c) (c' := c.none) rfl rfl (hus.2 j x u h1 h2) (List.all_eq_true.1 ha x (List.mem_of_getElem? h1))⟩
  have hU : Under E base c.none nilStore := ⟨hT, hmix, none_inv hI, fun g => Rep.moveC (c := c) (c' := c.none) rfl rfl (hG g) (hgl g), fun id hid => by simp [nilStore] at hid, hnp⟩
  have hst := start_SR (none_inv hI) rfl hus' fn.ntmps
  have := h base c.none hU c.none _ hst (bodyPost E.P fn (EndOf base c σ r σ none)) (fun ex s1 a' c' hr' hs => by
    obtain ⟨hex, s2, hk, hret⟩ := hr'
    have hs : SR base c.none nilStore s1 c' a' := by rcases hex with rfl | rfl <;> exact hs
    obtain ⟨c'', hw, hs2⟩ := hk _ _ hs
    have hp := ret_post hT (none_inv hI) rfl hs2 hex hret
    rw [← hw]
    rcases hex with rfl | rfl
    · exact ⟨hp.1, hp.2.choose, hp.2.choose_spec.1, pure_end hI hr hp.2.choose_spec.2⟩
    · exact ⟨hp.1, hp.2.choose, hp.2.choose_spec.1, pure_end hI hr hp.2.choose_spec.2⟩)
  exact this

end Go.Bx

/- For the printed texts: exits, stores as lists, the words of the printed functions. (Own text.) -/
namespace Go.Bx
set_option linter.unusedVariables false
set_option linter.unusedSimpArgs false
set_option linter.unusedSectionVars false
set_option linter.unusedVariables false
set_option linter.unusedSectionVars false
set_option linter.unusedSimpArgs false

/-! ### exits -/
section
variable {E : Env} {base : Nat} {c00 : Ctx} {σ00 : Store} {s : FS} {R : Post} {b : Code} {id j : Nat}
theorem thenN (h : Wp E base c00 σ00 b s R) : Then E base c00 σ00 b R .nrm s := h
theorem thenE (h : R (.exit j) s) : Then E base c00 σ00 b R (.exit j) s := h
theorem thenG (h : R (.goto j) s) : Then E base c00 σ00 b R (.goto j) s := h
theorem thenR (h : R .ret s) : Then E base c00 σ00 b R .ret s := h
theorem blkN (h : R .nrm s) : InBlk id R .nrm s := h
theorem blkE (h : R .nrm s) : InBlk id R (.exit id) s := by simp only [InBlk, if_true]; exact h
theorem blkX (hj : j ≠ id) (h : R (.exit j) s) : InBlk id R (.exit j) s := by simp only [InBlk, if_neg hj]; exact h
theorem blkG (h : R (.goto j) s) : InBlk id R (.goto j) s := h
theorem blkR (h : R .ret s) : InBlk id R .ret s := h
theorem againN (h : WpL E base c00 σ00 b s R) : Again E base c00 σ00 b R .nrm s := h
theorem againE (h : R (.exit j) s) : Again E base c00 σ00 b R (.exit j) s := h
theorem againR (h : R .ret s) : Again E base c00 σ00 b R .ret s := h
theorem jumpR (h : R .ret s) : Jump E base c00 σ00 b R .ret s := h
theorem jumpG {rest : Code} (hl : findLabel b j = some rest) (h : WpS E base c00 σ00 b rest s R) : Jump E base c00 σ00 b R (.goto j) s := by simp only [Jump, hl]; exact h

theorem Wk.wp {s1 s2 : FS} (h : Wk base c00 σ00 s1 s2) (k : Wp E base c00 σ00 b s2 R) : Wp E base c00 σ00 b s1 R := Wk.tw h k
theorem Wk.wpL {s1 s2 : FS} (h : Wk base c00 σ00 s1 s2) (k : WpL E base c00 σ00 b s2 R) : WpL E base c00 σ00 b s1 R := Wk.tw h k
theorem Wk.share (hU : Under E base c00 σ00) {s2 : FS} (ids : List Nat) (h : Wk base c00 σ00 ⟨s.tm, shareAll s.σ ids, omin s.low (cut s.c0 (freshL s.σ ids)), s.c0⟩ s2) : Wk base c00 σ00 s s2 := fun cx a hS => by
  obtain ⟨c', hw, hS'⟩ := hS.share hU.inv hU.full ids
  obtain ⟨c2, h1, h2⟩ := h c' a hS'
  exact ⟨c2, h1.trans hw, h2⟩

theorem Wp.seq1 {x y : Code} {JP : Post} (h : Wp E base c00 σ00 x s JP) (k : ∀ ex s1, JP ex s1 → Then E base c00 σ00 y R ex s1) : Wp E base c00 σ00 (.seq x y) s R := .seq (Tw.mono h k)
theorem WpL.stepE {b b' : Code} (hb : b = b') (h : Wp E base c00 σ00 b' s (Again E base c00 σ00 b R)) : WpL E base c00 σ00 b s R := by subst hb; exact .step h
theorem Rt.of {fn : Func} {r : AV} (h : evReturn E.T nilStore fn s = some (r, nilStore, none)) : Rt E base c00 fn r s := ⟨s, Wk.refl, h⟩
theorem Rt.wk {fn : Func} {r : AV} {s2 : FS} (h : Wk base c00 nilStore s s2) (k : Rt E base c00 fn r s2) : Rt E base c00 fn r s := by
  obtain ⟨s3, h1, h2⟩ := k
  exact ⟨s3, h.trans h1, h2⟩

/-- A statement whose ends are joined at a state. -/
theorem Wp.join {x y : Code} (S : FS) (h : Wp E base c00 σ00 x s (fun ex s1 => ex = .nrm ∧ Wk base c00 σ00 s1 S)) (k : Wp E base c00 σ00 y S R) : Wp E base c00 σ00 (.seq x y) s R :=
  .seq (Tw.mono h fun ex s1 hr => by obtain ⟨rfl, hk⟩ := hr; exact hk.wp k)
end

/-! ### stores as lists -/
def St (l : List (Option Obj)) : Store := ⟨l.length, fun i => (l[i]?).getD none⟩
theorem St_clock (l : List (Option Obj)) : (St l).clock = l.length := rfl
theorem St_ob (l : List (Option Obj)) (i : Nat) : (St l).ob i = (l[i]?).getD none := rfl
theorem St_new (l : List (Option Obj)) (o : Obj) : (St l).new o = St (l ++ [some o]) := by
  simp only [Store.new, St, List.length_append, List.length_cons, List.length_nil, Store.mk.injEq, true_and]
  funext i
  by_cases h : i = l.length
  · subst h; simp
  · simp only [h, if_false]
    by_cases hi : i < l.length
    · rw [List.getElem?_append_left hi]
    · rw [List.getElem?_eq_none (by omega), List.getElem?_eq_none (by simp; omega)]
theorem St_put (l : List (Option Obj)) (i : Nat) (o : Option Obj) (h : i < l.length) : (St l).put i o = St (l.set i o) := by
  simp only [Store.put, St, List.length_set, Store.mk.injEq, true_and]
  funext j
  by_cases hj : j = i
  · subst hj; simp [h]
  · rw [if_neg hj, List.getElem?_set_ne (by omega)]

theorem all_pl' {α : Type} {c : α → Cs} (h : ∀ x, (c x).all pl = true) (l : List α) : ((l.map c).all fun e => e.all pl) = true := by
  rw [List.all_eq_true]; intro e he; obtain ⟨x, _, rfl⟩ := List.mem_map.1 he; exact h x
theorem leaf_ptr (id i o : Nat) : leaf (.ptr id i o) = true := rfl

/-- The numbers: for each new one the old one, or none: a row without a cell. -/
def rhoOf (L : List (Option Nat)) : Nat → Option Nat := fun a => (L[a]?).getD none
def vtOf (L : List (Option Nat)) : Nat → Bool := fun a => match L[a]? with
  | some none => true
  | _ => false

inductive WSs (σ : Store) (ρ : Nat → Option Nat) (vt : Nat → Bool) : List (Option Nat) → List (Option Obj) → Prop
  | nil : WSs σ ρ vt [] []
  | virt {sz : Nat} {sh fl : Bool} {L : List (Option Nat)} {l : List (Option Obj)} (t : WSs σ ρ vt L l) : WSs σ ρ vt (none :: L) (some ⟨sz, sh, fl, []⟩ :: l)
  | obj {i : Nat} {o o' : Obj} {L : List (Option Nat)} {l : List (Option Obj)} (h : σ.ob i = some o) (w : WO σ ρ vt o o') (t : WSs σ ρ vt L l) : WSs σ ρ vt (some i :: L) (some o' :: l)

theorem WSs.get {σ : Store} {ρ : Nat → Option Nat} {vt : Nat → Bool} {L : List (Option Nat)} {l : List (Option Obj)} (h : WSs σ ρ vt L l) : L.length = l.length ∧ ∀ (a : Nat) o', l[a]? = some (some o') → (L[a]? = some none → o'.es = []) ∧ ∀ i, L[a]? = some (some i) → ∃ o, σ.ob i = some o ∧ WO σ ρ vt o o' := by
  induction h with
  | nil => exact ⟨rfl, fun a o' h => by simp at h⟩
  | virt t ih =>
    refine ⟨by simp [ih.1], fun a o' h => ?_⟩
    cases a with
    | zero => simp at h; subst h; exact ⟨fun _ => rfl, fun i h => by simp at h⟩
    | succ a => simpa using ih.2 a o' (by simpa using h)
  | obj h w t ih =>
    refine ⟨by simp [ih.1], fun a o' h' => ?_⟩
    cases a with
    | zero => simp at h'; subst h'; exact ⟨fun h => by simp at h, fun i hi => by simp at hi; subst hi; exact ⟨_, h, w⟩⟩
    | succ a => simpa using ih.2 a o' (by simpa using h')

/-- To a state with a store as a list. -/
theorem Wk.weak {E : Env} {base : Nat} {c00 : Ctx} {s : FS} (hU : Under E base c00 nilStore) {tm' : Cs} (L : List (Option Nat)) (l : List (Option Obj)) (hd : (L.filterMap id).Nodup)
    (hs : WSs s.σ (rhoOf L) (vtOf L) L l) (htm : WVs s.σ (rhoOf L) (vtOf L) s.tm tm') : Wk base c00 nilStore s ⟨tm', St l, s.low, s.c0⟩ := fun cx a hS => by
  obtain ⟨hlen, hget⟩ := hs.get
  have hv : ∀ a i, rhoOf L a = some i → vtOf L a = false := fun a i h => by
    unfold rhoOf at h; unfold vtOf
    cases hL : L[a]? with
    | none => rfl
    | some x => cases x with
      | none => rw [hL] at h; simp at h
      | some x => rfl
  have hrho : ∀ {a i}, rhoOf L a = some i → L[a]? = some (some i) := fun {a i} h => by
    unfold rhoOf at h
    cases hL : L[a]? with
    | none => rw [hL] at h; simp at h
    | some x => rw [hL] at h; simp at h; rw [h]
  refine ⟨cx.ren (rhoOf L) (vtOf L), rfl, hS.weak hU.inv hU.full hv (σ' := St l) ⟨Nat.zero_le _, fun a h => by simp [nilStore] at h, fun _ _ _ _ => Nat.zero_le _, fun a i h _ => ?_, fun a b i h k => ?_, fun a h => ⟨?_, Nat.zero_le _⟩, fun a o' h => ?_, fun a o' h => ?_⟩ htm⟩
  · have := (List.getElem?_eq_some_iff.1 (hrho h)).1; rw [St_clock]; omega
  · have h1 := hrho h; have h2 := hrho k
    have key : ∀ (L : List (Option Nat)), (L.filterMap id).Nodup → ∀ (a b i : Nat), L[a]? = some (some i) → L[b]? = some (some i) → a = b := by
      intro L
      induction L with
      | nil => intro _ a b i h; simp at h
      | cons x L ih =>
        intro hd a b i h k
        have hd' : (L.filterMap id).Nodup := by
          cases x with
          | none => simpa using hd
          | some x => simp at hd; exact hd.2
        have hin : ∀ c, L[c]? = some (some i) → i ∈ L.filterMap id := fun c hc => List.mem_filterMap.2 ⟨some i, List.mem_of_getElem? hc, rfl⟩
        cases a with
        | zero =>
          cases b with
          | zero => rfl
          | succ b =>
            simp at h k; subst h
            simp at hd
            exact absurd (List.mem_of_getElem? k) (by simpa using hd.1)
        | succ a =>
          cases b with
          | zero =>
            simp at h k; subst k
            simp at hd
            exact absurd (List.mem_of_getElem? h) (by simpa using hd.1)
          | succ b => simp at h k; rw [ih hd' a b i h k]
    exact key L hd a b i h1 h2
  · unfold vtOf at h
    split at h
    · rename_i h1; have := (List.getElem?_eq_some_iff.1 h1).1; rw [St_clock]; omega
    · cases h
  · rw [St_ob] at h
    by_cases ha : a < l.length
    · rw [St_clock]; exact ha
    · rw [List.getElem?_eq_none (by omega)] at h; simp at h
  · rw [St_ob] at h
    have hla : l[a]? = some (some o') := by
      cases hl : l[a]? with
      | none => rw [hl] at h; simp at h
      | some x => rw [hl] at h; simp at h; rw [h]
    obtain ⟨h1, h2⟩ := hget a o' hla
    refine ⟨fun hvt => h1 ?_, fun i hi => h2 i (hrho hi)⟩
    unfold vtOf at hvt
    split at hvt
    · assumption
    · cases hvt

theorem WV.eq {σ : Store} {ρ : Nat → Option Nat} {vt : Nat → Bool} {x y : AV} (h : x = y) (hc : closed x = true) : WV σ ρ vt x y := by subst h; exact .keep hc
theorem WV.row_eq {σ : Store} {ρ : Nat → Option Nat} {vt : Nat → Bool} {id id' sz lo n n' : Nat} (h : ρ id' = some id) (hn : n = n') : WV σ ρ vt (.row id sz lo n) (.row id' sz lo n') := by subst hn; exact .row h
theorem aggKeep {σ : Store} {ρ : Nat → Option Nat} {vt : Nat → Bool} {xs : Cs} (h : xs.all closed = true) : ∀ (j : Nat) x y, xs[j]? = some x → xs[j]? = some y → WV σ ρ vt x y := fun j x y h1 h2 => by
  rw [h1] at h2; cases h2; exact .keep (List.all_eq_true.1 h x (List.mem_of_getElem? h1))
theorem WO.grow {σ : Store} {ρ : Nat → Option Nat} {vt : Nat → Bool} {sz : Nat} {sh fl : Bool} {α : Type} {c : α → Cs} {l : List α} {xs ys es' : List Cs} (hc : ∀ x, (c x).all pl = true) (h : WL σ ρ vt xs ys) (hy : (ys.all fun e => e.all pl) = true) (he : List.map c l ++ ys = es') :
    WO σ ρ vt ⟨sz, sh, fl, List.map c l ++ xs⟩ ⟨sz, sh, true, es'⟩ := by
  subst he
  have hp : ((List.map c l ++ ys).all fun e => e.all pl) = true := by rw [List.all_append, all_pl' hc l, hy]; rfl
  refine .mk (WL.append (WL.refl (all_pl' hc l)) h) ?_ (fun _ => hp)
  rw [List.all_eq_true] at hp ⊢
  intro e he
  have := hp e he
  rw [List.all_eq_true] at this ⊢
  exact fun x hx => leaf_of_pl (this x hx)
theorem WO.same_eq {σ : Store} {ρ : Nat → Option Nat} {vt : Nat → Bool} {sz : Nat} {sh : Bool} {es es' : List Cs} (h : es = es') : WO σ ρ vt ⟨sz, sh, true, es⟩ ⟨sz, sh, true, es'⟩ := by subst h; exact .same _ _ _

/-! ### words of the printed functions -/
abbrev Str := List UInt8
def mkS (l : Str) : ByteArray := ⟨⟨l⟩⟩
def cInt (k : IntKind) (n : Int) : Cs := [.v (.int k n)]
def cBool (b : Bool) : Cs := [.v (.bool b)]
def cStr (s : Str) : Cs := [.v (.string (mkS s))]
def cSl {α : Type} (c : α → Cs) (l : List α) : Cs := [.sl (l.map c)]
/-- A result of its own. -/
def own {α : Type} (sz : Nat) (c : α → Cs) (l : List α) : AV := .own false sz (l.map c)
def view {α : Type} (c : α → Cs) (l : List α) : AV := .sl (l.map c)

def rd {α : Type} (l : List α) (i : Int) : Option α := if 0 ≤ i then l[i.toNat]? else none
theorem rd_some {α : Type} {l : List α} {i : Int} {x : α} (h : rd l i = some x) : 0 ≤ i ∧ i.toNat < l.length ∧ l[i.toNat]? = some x := by
  unfold rd at h
  split at h
  · rename_i hi; exact ⟨hi, (List.getElem?_eq_some_iff.1 h).1, h⟩
  · cases h
theorem rd_of {α : Type} {l : List α} {i : Nat} {x : α} (h : l[i]? = some x) : rd l (i : Int) = some x := by simp [rd, h]
/-- A byte of a text. -/
def bt (s : Str) (i : Int) : Option Int := (rd s i).map fun b => (b.toNat : Int)
def mk {α : Type} (by_ : Nat) (n : Int) (x : α) : Option (List α) := if 0 ≤ n ∧ n ≤ 9223372036854775807 ∧ by_ * n ≤ 140737488355328 then some (List.replicate n.toNat x) else none
theorem mk_some {α : Type} {b : Nat} {n : Int} {x : α} {r : List α} (h : mk b n x = some r) : 0 ≤ n ∧ n ≤ 9223372036854775807 ∧ b * n ≤ 140737488355328 ∧ r = List.replicate n.toNat x := by
  unfold mk at h
  split at h
  · rename_i hc; simp only [Option.some.injEq] at h; exact ⟨hc.1, hc.2.1, hc.2.2, h.symm⟩
  · cases h
/-- A piece. -/
def cutL {α : Type} (l : List α) (lo hi : Int) : Option (List α) := if 0 ≤ lo ∧ 0 ≤ hi ∧ lo.toNat ≤ hi.toNat ∧ hi.toNat ≤ l.length then some ((l.take hi.toNat).drop lo.toNat) else none
theorem cutL_some {α : Type} {l : List α} {lo hi : Int} {r : List α} (h : cutL l lo hi = some r) : 0 ≤ lo ∧ 0 ≤ hi ∧ lo.toNat ≤ hi.toNat ∧ hi.toNat ≤ l.length ∧ r = (l.take hi.toNat).drop lo.toNat ∧ r.length = hi.toNat - lo.toNat := by
  unfold cutL at h
  split at h
  · rename_i hc; obtain ⟨h1, h2, h3, h4⟩ := hc; simp only [Option.some.injEq] at h; subst h
    exact ⟨h1, h2, h3, h4, rfl, by simp; omega⟩
  · cases h
/-- One list behind another, as long as there is room. -/
def ap {α : Type} (by_ : Nat) (l m : List α) : Option (List α) := if (l.length + m.length) * by_ ≤ 140737488355328 then some (l ++ m) else none
theorem ap_some {α : Type} {b : Nat} {l m r : List α} (h : ap b l m = some r) : (l.length + m.length) * b ≤ 140737488355328 ∧ r = l ++ m := by
  unfold ap at h
  split at h
  · rename_i hc; simp only [Option.some.injEq] at h; exact ⟨hc, h.symm⟩
  · cases h
theorem ap_of {α : Type} {b : Nat} {l m : List α} (h : (l.length + m.length) * b ≤ 140737488355328) : ap b l m = some (l ++ m) := if_pos h
def setL {α : Type} (l : List α) (i : Int) (x : α) : List α := l.set i.toNat x
inductive Ou (ρ α : Type) where
  | ret (r : ρ)
  | nxt (v : α)

theorem bind_some {α β : Type} {e : Option α} {f : α → Option β} {r : β} (h : (e >>= f) = some r) : ∃ x, e = some x ∧ f x = some r := Option.bind_eq_some_iff.1 h
theorem if_t {α : Type} {t : Bool} {a b : α} (h : t = true) : (if t = true then a else b) = a := if_pos h
theorem if_f {α : Type} {t : Bool} {a b : α} (h : t = false) : (if t = true then a else b) = b := if_neg (by simp [h])

theorem all_len {α : Type} {c : α → Cs} {n : Nat} (h : ∀ x, (c x).length = n) (l : List α) : ((l.map c).all fun e => e.length == n) = true := by simp [List.all_eq_true, h]
theorem drop_map {α : Type} (c : α → Cs) (l : List α) (n : Nat) : (l.map c).drop n = (l.drop n).map c := by simp
theorem take_map {α : Type} (c : α → Cs) (l : List α) (n : Nat) : (l.map c).take n = (l.take n).map c := by simp
/-! ### contracts as a table -/
open Classical in
noncomputable def tbl {α : Type} (F : FuncId) (enc : α → Cs) (pf : α → Option AV) : CI := fun f args σ =>
  if h : ∃ r, f = F ∧ ∃ x, args = enc x ∧ pf x = some r then some (h.choose, σ, none) else none
theorem tbl_eq {α : Type} {F : FuncId} {enc : α → Cs} {pf : α → Option AV} (hinj : ∀ x y, enc x = enc y → x = y) {x : α} {r : AV} (h : pf x = some r) (σ : Store) : tbl F enc pf F (enc x) σ = some (r, σ, none) := by
  have hex : ∃ r, F = F ∧ ∃ y, enc x = enc y ∧ pf y = some r := ⟨r, rfl, x, rfl, h⟩
  unfold tbl
  rw [dif_pos hex]
  generalize hg : hex.choose = q
  have hs := hex.choose_spec
  rw [hg] at hs
  obtain ⟨_, y, h1, h2⟩ := hs
  rw [← hinj x y h1, h] at h2
  simp only [Option.some.injEq] at h2
  rw [← h2]
theorem tbl_ok {α : Type} {E : Env} {base : Nat} {F : FuncId} {enc : α → Cs} {pf : α → Option AV} (h : ∀ x r, pf x = some r → PureOK E F (enc x) r) : CIOK E base (tbl F enc pf) := by
  intro f args σ r σr tl hr
  unfold tbl at hr
  split at hr
  · rename_i hc; cases hr
    generalize hg : hc.choose = q
    have hs := hc.choose_spec
    rw [hg] at hs
    clear hg hc
    obtain ⟨rfl, y, rfl, h3⟩ := hs
    exact h y _ h3 base σ
  · cases hr
theorem no_ok {E : Env} {base : Nat} : CIOK E base (fun _ _ _ => none) := fun _ _ _ _ _ _ h => by cases h
/-- One table ahead of another. -/
def CI.or (F : FuncId) (a b : CI) : CI := fun f args σ => if f = F then a f args σ else b f args σ
theorem or_ok {E : Env} {base : Nat} {F : FuncId} {a b : CI} (h : CIOK E base a) (k : CIOK E base b) : CIOK E base (CI.or F a b) := by
  intro f args σ r σr tl hr
  unfold CI.or at hr
  split at hr
  · exact h _ _ _ _ _ _ hr
  · exact k _ _ _ _ _ _ hr
theorem inj_map {α : Type} {c : α → Cs} (h : ∀ x y, c x = c y → x = y) : ∀ l m : List α, l.map c = m.map c → l = m
  | [], [], _ => rfl
  | [], _ :: _, h => by simp at h
  | _ :: _, [], h => by simp at h
  | a :: l, b :: m, e => by
    simp only [List.map_cons, List.cons.injEq] at e
    rw [h a b e.1, inj_map h l m e.2]
theorem mkS_inj {a b : Str} (h : mkS a = mkS b) : a = b := by simp only [mkS, ByteArray.mk.injEq, Array.mk.injEq] at h; exact h
theorem mkS_eq (a b : Str) : (mkS a = mkS b) = (a = b) := propext ⟨mkS_inj, fun h => by rw [h]⟩
theorem av_int {k : IntKind} {a b : Int} (h : AV.v (.int k a) = AV.v (.int k b)) : a = b := by cases h; rfl
theorem av_bool {a b : Bool} (h : AV.v (.bool a) = AV.v (.bool b)) : a = b := by cases h; rfl
theorem av_str {a b : Str} (h : AV.v (.string (mkS a)) = AV.v (.string (mkS b))) : a = b := by
  simp only [AV.v.injEq, Value.string.injEq] at h; exact mkS_inj h
theorem av_sl {α : Type} {c : α → Cs} (hc : ∀ x y, c x = c y → x = y) {a b : List α} (h : AV.sl (List.map c a) = AV.sl (List.map c b)) : a = b := by
  simp only [AV.sl.injEq] at h; exact inj_map hc _ _ h
theorem av_agg {α : Type} {c : α → Cs} (hc : ∀ x y, c x = c y → x = y) {a b : α} (h : AV.agg (c a) = AV.agg (c b)) : a = b := by
  simp only [AV.agg.injEq] at h; exact hc _ _ h
theorem inj_int {k : IntKind} (x y : Int) (h : cInt k x = cInt k y) : x = y := av_int (List.cons.inj h).1
theorem cInt_eq (k : IntKind) (n : Int) : cInt k n = [.v (.int k n)] := rfl
theorem cBool_eq (b : Bool) : cBool b = [.v (.bool b)] := rfl
theorem cStr_eq (s : Str) : cStr s = [.v (.string (mkS s))] := rfl
theorem cSl_eq {α : Type} (c : α → Cs) (l : List α) : cSl c l = [.sl (l.map c)] := rfl
theorem len_cInt (k : IntKind) (l : List Int) : ((l.map (cInt k)).all fun e => e.length == 1) = true := all_len (c := cInt k) (n := 1) (fun _ => rfl) l
theorem len_cBool (l : List Bool) : ((l.map cBool).all fun e => e.length == 1) = true := all_len (c := cBool) (n := 1) (fun _ => rfl) l
theorem len_cStr (l : List Str) : ((l.map cStr).all fun e => e.length == 1) = true := all_len (c := cStr) (n := 1) (fun _ => rfl) l
theorem len_cSl {α : Type} (c : α → Cs) (l : List (List α)) : ((l.map (cSl c)).all fun e => e.length == 1) = true := all_len (c := cSl c) (n := 1) (fun _ => rfl) l
theorem setL_len {α : Type} (l : List α) (i : Int) (x : α) : (setL l i x).length = l.length := by simp [setL]
end Go.Bx

/- The rewriting rules for a region's run, as one. (Own text.) -/
namespace Go.Bx
set_option linter.unusedVariables false
set_option linter.unusedSimpArgs false
set_option linter.unusedSectionVars false
set_option linter.unusedVariables false
set_option linter.unusedSimpArgs false

theorem slice_ge {es : List Cs} {n : Nat} (h : es.length ≤ n) : slice es 0 n = es := by simp only [slice, List.drop_zero]; exact List.take_of_length_le h
theorem getD_some {α : Type} (x d : α) : (some x).getD d = x := rfl
theorem reify_nilp (σ : Store) (n : Nat) : reify σ n (.v (.pointer none)) = some (.v (.pointer none)) := by cases n <;> rfl
theorem ite_some (c : Bool) : (if c = true then some true else some false) = some c := by cases c <;> rfl
theorem cells_own (sh : Bool) (sz : Nat) (es : List Cs) : cells (.own sh sz es) = [.own sh sz es] := rfl
theorem cells_emp : cells .emp = [.emp] := rfl
theorem leaf_emp : leaf .emp = true := rfl
theorem pl_emp : pl .emp = true := rfl
theorem rowIds_emp (σ : Store) (n : Nat) : rowIds σ n .emp = [] := by cases n <;> rfl
theorem reify_emp (σ : Store) (n : Nat) : reify σ n .emp = some (.sl []) := by cases n <;> rfl
theorem importAV_emp (σ : Store) : importAV σ .emp = (.emp, σ) := rfl
theorem setL_eq {α : Type} (l : List α) (i : Int) (x : α) : setL l i x = l.set i.toNat x := rfl
theorem slice_take {α : Type} (c : α → Cs) (l : List α) (n : Nat) : slice (l.map c) 0 n = (l.take n).map c := by simp [slice]
theorem omin_nn : omin none none = none := rfl
theorem cut_zero (x : Option Nat) : cut 0 x = none := by cases x <;> simp [cut]
/-- Forgotten slots. -/
def jj : Nat → Cs → Cs
  | 0, l => l
  | n + 1, l => .junk :: jj n l
theorem jj_0 (l : Cs) : jj 0 l = l := rfl
theorem jj_s (n : Nat) (l : Cs) : jj (n + 1) l = .junk :: jj n l := rfl
end Go.Bx

/- Running an operation list by rewriting, one operation at a time. (Own text.) -/
namespace Go.Bx
set_option linter.unusedVariables false
set_option linter.unusedSimpArgs false
set_option linter.unusedSectionVars false
set_option linter.unusedVariables false
set_option linter.unusedSimpArgs false

def consF (f : Fl) : Option (FS × List Fl) → Option (FS × List Fl)
  | some (s, fs) => some (s, f :: fs)
  | none => none
theorem consF_some (f : Fl) (s : FS) (fs : List Fl) : consF f (some (s, fs)) = some (s, f :: fs) := rfl

/-- What an operation gives, and what comes behind it. -/
def stp (dst : Option Tmp) (s : FS) (k : FS → Option (FS × List Fl)) : Option OR → Option (FS × List Fl)
  | some r => consF ⟨r.md.isSome, r.rd⟩ (k ⟨putTm s.tm dst r.y, r.σ, omin s.low (cut s.c0 r.md), s.c0⟩)
  | none => none
theorem stp_some (dst : Option Tmp) (tm : Cs) (σ : Store) (low : Option Nat) (c0 : Nat) (k : FS → Option (FS × List Fl)) (y : AV) (σ' : Store) (md : Option Nat) (rd : Bool) :
    stp dst ⟨tm, σ, low, c0⟩ k (some ⟨y, σ', md, rd⟩) = consF ⟨md.isSome, rd⟩ (k ⟨putTm tm dst y, σ', omin low (cut c0 md), c0⟩) := rfl
def gdp (dst : Option Tmp) (op : Op) (s : FS) (E : Env) (ci : CI) (k : FS → Option (FS × List Fl)) : Option Bool → Option (FS × List Fl)
  | some true => stp dst s k (evO E.T E.br ci (evOp E.gl s.tm) s.σ op)
  | some false => consF ⟨false, false⟩ (k { s with tm := putTm s.tm dst (.v undef) })
  | none => none
theorem gdp_true (dst : Option Tmp) (op : Op) (tm : Cs) (σ : Store) (low : Option Nat) (c0 : Nat) (E : Env) (ci : CI) (k : FS → Option (FS × List Fl)) : gdp dst op ⟨tm, σ, low, c0⟩ E ci k (some true) = stp dst ⟨tm, σ, low, c0⟩ k (evO E.T E.br ci (evOp E.gl tm) σ op) := rfl
theorem gdp_false (dst : Option Tmp) (op : Op) (tm : Cs) (σ : Store) (low : Option Nat) (c0 : Nat) (E : Env) (ci : CI) (k : FS → Option (FS × List Fl)) : gdp dst op ⟨tm, σ, low, c0⟩ E ci k (some false) = consF ⟨false, false⟩ (k ⟨putTm tm dst (.v undef), σ, low, c0⟩) := rfl

section
variable (E : Env) (ci : CI) (ops : Array Oper) (rest : List Oper) (dst : Option Tmp) (op : Op) (ty : TypeId) (p : String) (af : Array Edge) (tm : Cs) (σ : Store) (low : Option Nat) (c0 : Nat)
theorem evOps_nil (s : FS) : evOps E ci ops [] s = some (s, []) := rfl
theorem evOps_plain : evOps E ci ops (⟨dst, op, ty, p, af, none⟩ :: rest) ⟨tm, σ, low, c0⟩ = stp dst ⟨tm, σ, low, c0⟩ (evOps E ci ops rest) (evO E.T E.br ci (evOp E.gl tm) σ op) := by
  simp only [evOps, stepG, wantedAV, stepO, stp]
  cases evO E.T E.br ci (evOp E.gl tm) σ op with
  | none => rfl
  | some r =>
    simp only [consF]
    cases evOps E ci ops rest _ with
    | none => rfl
    | some q => rfl
theorem evOps_guard (g : Nat × Bool) : evOps E ci ops (⟨dst, op, ty, p, af, some g⟩ :: rest) ⟨tm, σ, low, c0⟩ = gdp dst op ⟨tm, σ, low, c0⟩ E ci (evOps E ci ops rest) (wantedAV ops tm ⟨dst, op, ty, p, af, some g⟩) := by
  simp only [evOps, stepG]
  cases wantedAV ops tm ⟨dst, op, ty, p, af, some g⟩ with
  | none => rfl
  | some b =>
    cases b with
    | true =>
      simp only [stepO, gdp, stp]
      cases evO E.T E.br ci (evOp E.gl tm) σ op with
      | none => rfl
      | some r =>
        simp only [consF]
        cases evOps E ci ops rest _ with
        | none => rfl
        | some q => rfl
    | false =>
      simp only [gdp, consF]
      cases evOps E ci ops rest _ with
      | none => rfl
      | some q => rfl
def wnt (w : Bool) : Option AV → Option Bool
  | some (.v (.bool b)) => some (b == w)
  | some .junk => none
  | some _ => some false
  | none => some false
theorem wanted_at (j : Nat) (w : Bool) : wantedAV ops tm ⟨dst, op, ty, p, af, some (j, w)⟩ = match (ops[j]?).bind (·.dst) with
    | some d => wnt w (tm[d]?)
    | none => some false := by
  simp only [wantedAV]
  cases (ops[j]?).bind (·.dst) with
  | none => rfl
  | some d =>
    simp only
    cases tm[d]? with
    | none => rfl
    | some x =>
      cases x with
      | v u => cases u <;> rfl
      | _ => rfl
theorem wnt_tt : wnt true (some (.v (.bool true))) = some true := rfl
theorem wnt_tf : wnt true (some (.v (.bool false))) = some false := rfl
theorem wnt_ft : wnt false (some (.v (.bool true))) = some false := rfl
theorem wnt_ff : wnt false (some (.v (.bool false))) = some true := rfl
theorem wnt_b (w b : Bool) : wnt w (some (.v (.bool b))) = some (b == w) := rfl
theorem wnt_u (w : Bool) : wnt w (some (.v undef)) = some false := rfl

def rgF : Option (FS × List Fl) → Option FS
  | some (s, _) => some s
  | none => none
theorem rgF_some (s : FS) (fs : List Fl) : rgF (some (s, fs)) = some s := rfl
def rgT (ops : Array Oper) : Option (FS × List Fl) → Option FS
  | some (s, fs) => if (regOK ops && calm (Region.before ops) fs) = true then some s else none
  | none => none
theorem rgT_some (s : FS) (fs : List Fl) : rgT ops (some (s, fs)) = if (regOK ops && calm (Region.before ops) fs) = true then some s else none := rfl
theorem evRegion_f (s : FS) : evRegion E ci ops false s = rgF (evOps E ci ops ops.toList s) := by
  simp only [evRegion, rgF]
  cases evOps E ci ops ops.toList s with
  | none => rfl
  | some q => rfl
theorem evRegion_t (s : FS) : evRegion E ci ops true s = rgT ops (evOps E ci ops ops.toList s) := by
  simp only [evRegion, rgT]
  cases evOps E ci ops ops.toList s with
  | none => rfl
  | some q => rfl
end

/-! ### the operations -/
def p1 (σ : Store) : Option AV → Option OR
  | some y => some ⟨y, σ, none, false⟩
  | none => none
theorem p1_some (σ : Store) (y : AV) : p1 σ (some y) = some ⟨y, σ, none, false⟩ := rfl

section
variable {T : Tab} {br : FuncId → Nat → Bool} {ci : CI} {ρ : Operand → AV} {σ : Store}
theorem evO_move (x : Operand) : evO T br ci ρ σ (.move x) = some ⟨ρ x, σ, none, false⟩ := rfl
theorem evO_assign (x : Operand) : evO T br ci ρ σ (.assign x) = some ⟨ρ x, σ, none, false⟩ := rfl
theorem evO_pick (q a b : Operand) : evO T br ci ρ σ (.pick q a b) = match ρ q with
    | .v (.bool b') => some ⟨if b' then ρ a else ρ b, σ, none, false⟩
    | _ => none := by
  simp only [evO, evA, evB]
  cases ρ q with
  | v u => cases u <;> rfl
  | _ => rfl
theorem evO_bin (op : BinOp) (t u : TypeId) (x y : Operand) : evO T br ci ρ σ (.binOp op t x y u) = p1 σ (if (bothNil (ρ x) (ρ y) && !(constOp x || constOp y)) = true then none else evBin T op t (ρ x) (ρ y)) := by
  simp only [evO, evA]
  cases (if (bothNil (ρ x) (ρ y) && !(constOp x || constOp y)) = true then none else evBin T op t (ρ x) (ρ y)) <;> rfl
theorem evO_un (op : UnOp) (t : TypeId) (x : Operand) : evO T br ci ρ σ (.unOp op t x) = p1 σ (evUn op (ρ x)) := by
  simp only [evO, evA]
  cases evUn op (ρ x) <;> rfl
theorem evO_extract (x : Operand) (i : Nat) : evO T br ci ρ σ (.extract x i) = match ρ x with
    | .tup vs => p1 σ vs[i]?
    | _ => none := by
  simp only [evO, evA]
  cases ρ x with
  | tup vs => simp only; cases vs[i]? <;> rfl
  | _ => rfl
theorem evO_indexAddr (t : TypeId) (x i : Operand) : evO T br ci ρ σ (.indexAddr t x i) = p1 σ (indexAddrAV T t (ρ x) (ρ i)) := by
  simp only [evO, evA]
  cases indexAddrAV T t (ρ x) (ρ i) <;> rfl
theorem evO_call (f : Operand) (args : Array Operand) (ts : Array TypeId) : evO T br ci ρ σ (.call ⟨.value f, args, ts⟩) = evCall br ci σ (ρ f) (args.toList.map ρ) := rfl
theorem evO_append (args : Array Operand) (ts : Array TypeId) : evO T br ci ρ σ (.call ⟨.builtin .append, args, ts⟩) = match args.toList, ts.toList with
    | [s, x], [t, t'] => evAppend T σ t t' (ρ s) (ρ x)
    | _, _ => none := rfl
theorem evO_store (t : TypeId) (a x : Operand) : evO T br ci ρ σ (.store t a x) = evStore T σ t (ρ a) (ρ x) := rfl
def ldV (r : TRow) (cs : Cs) : Option AV := if r.sz ≤ cs.length then ofCells r.desc.isAgg (cs.take r.sz) else none
theorem evO_load (t : TypeId) (a : Operand) : evO T br ci ρ σ (.load t a) = match T t, ρ a with
    | some r, .vp cs => p1 σ (ldV r cs)
    | some r, x => evLoad T σ t x
    | none, _ => none := by
  simp only [evO, evA, evB]
  cases hT : T t with
  | none => simp only [evLoad, hT]
  | some r =>
    cases ha : ρ a with
    | vp cs =>
      simp only [ldV]
      cases (if r.sz ≤ cs.length then ofCells r.desc.isAgg (cs.take r.sz) else none) with
      | none => simp only [Option.map_none, evLoad, hT, p1]
      | some y => rfl
    | _ => rfl
theorem evO_fieldAddr (s : TypeId) (x : Operand) (f : Nat) : evO T br ci ρ σ (.fieldAddr s x f) = match fieldPlaceT T s f, ρ x with
    | some (o, r), .vp cs => if r.sz = 0 then none else some ⟨.vp (cs.drop o), σ, none, false⟩
    | some (o, r), .ptr id i off => if r.sz = 0 then none else some ⟨.ptr id i (off + o), σ, none, false⟩
    | some (o, r), .tptr id _ => if r.sz = 0 then none else some ⟨.ptr id 0 o, σ, none, false⟩
    | _, _ => none := by
  simp only [evO, evA, evB]
  cases fieldPlaceT T s f with
  | none => rfl
  | some q =>
    obtain ⟨o, r⟩ := q
    cases ρ x with
    | vp cs => simp only; by_cases h : r.sz = 0 <;> simp [h]
    | ptr id i off => simp only; by_cases h : r.sz = 0 <;> simp [h]
    | tptr id t => simp only; by_cases h : r.sz = 0 <;> simp [h]
    | _ => rfl
theorem evO_alloc (t : TypeId) : evO T br ci ρ σ (.alloc t) = match T t with
    | some r => if r.zero.length = r.sz then some ⟨if r.tp = true then .tptr σ.clock t else .ptr σ.clock 0 0, σ.new ⟨r.sz, false, false, [r.zero.map .v]⟩, none, false⟩ else none
    | none => none := by
  simp only [evO, evA, evB]
  cases T t with
  | none => rfl
  | some r => simp only; by_cases h : r.zero.length = r.sz <;> simp [h]
theorem evO_box (t : TypeId) (x : Operand) : evO T br ci ρ σ (.box t x) = match T t with
    | some r => if (cells (ρ x)).length = r.sz ∧ (cells (ρ x)).all leaf = true then some ⟨.ptr σ.clock 0 0, σ.new ⟨r.sz, false, false, [cells (ρ x)]⟩, none, false⟩ else none
    | none => none := by
  simp only [evO, evA, evB]
  cases T t with
  | none => rfl
  | some r =>
    simp only
    by_cases h : (cells (ρ x)).length = r.sz ∧ (cells (ρ x)).all leaf = true
    · simp only [if_pos h]
    · simp only [if_neg h]
end
def viaA (σ : Store) : Option (AV × Option Obj) → Option OR
  | some (y, none) => some ⟨y, σ, none, false⟩
  | some (y, some ob) => some ⟨y, σ.new ob, none, false⟩
  | none => none
theorem viaA_1 (σ : Store) (y : AV) : viaA σ (some (y, none)) = some ⟨y, σ, none, false⟩ := rfl
theorem viaA_2 (σ : Store) (y : AV) (ob : Obj) : viaA σ (some (y, some ob)) = some ⟨y, σ.new ob, none, false⟩ := rfl
theorem evO_build {T : Tab} {br : FuncId → Nat → Bool} {ci : CI} {ρ : Operand → AV} {σ : Store} (t : TypeId) (ps : Array (Nat × Operand)) : evO T br ci ρ σ (.build t ps) = viaA σ (evA T ρ σ.clock (.build t ps)) := by
  unfold evO viaA
  cases evA T ρ σ.clock (.build t ps) with
  | none => rfl
  | some q => obtain ⟨y, ob⟩ := q; cases ob <;> rfl
theorem evO_buildSlice {T : Tab} {br : FuncId → Nat → Bool} {ci : CI} {ρ : Operand → AV} {σ : Store} (t : TypeId) (n : Nat) (ps : Array (Nat × Operand)) : evO T br ci ρ σ (.buildSlice t n ps) = viaA σ (evA T ρ σ.clock (.buildSlice t n ps)) := by
  unfold evO viaA
  cases evA T ρ σ.clock (.buildSlice t n ps) with
  | none => rfl
  | some q => obtain ⟨y, ob⟩ := q; cases ob <;> rfl
theorem evO_makeSlice {T : Tab} {br : FuncId → Nat → Bool} {ci : CI} {ρ : Operand → AV} {σ : Store} (t : TypeId) (a b : Operand) : evO T br ci ρ σ (.makeSlice t a b) = viaA σ (evA T ρ σ.clock (.makeSlice t a b)) := by
  unfold evO viaA
  cases evA T ρ σ.clock (.makeSlice t a b) with
  | none => rfl
  | some q => obtain ⟨y, ob⟩ := q; cases ob <;> rfl
theorem evO_convert {T : Tab} {br : FuncId → Nat → Bool} {ci : CI} {ρ : Operand → AV} {σ : Store} (a b : TypeId) (x : Operand) : evO T br ci ρ σ (.convert a b x) = Option.or (viaA σ (evA T ρ σ.clock (.convert a b x))) (evConv T σ a b (ρ x)) := by
  unfold evO viaA
  cases evA T ρ σ.clock (.convert a b x) with
  | none => simp only [evB]; cases evConv T σ a b (ρ x) <;> rfl
  | some q => obtain ⟨y, ob⟩ := q; cases ob <;> rfl
theorem some_or' {α : Type} (a : α) (o : Option α) : Option.or (some a) o = some a := rfl
theorem evO_field {T : Tab} {br : FuncId → Nat → Bool} {ci : CI} {ρ : Operand → AV} {σ : Store} (t : TypeId) (x : Operand) (f : Nat) : evO T br ci ρ σ (.field t x f) = viaA σ (evA T ρ σ.clock (.field t x f)) := by
  unfold evO viaA
  cases evA T ρ σ.clock (.field t x f) with
  | none => rfl
  | some q => obtain ⟨y, ob⟩ := q; cases ob <;> rfl
theorem evO_slice {T : Tab} {br : FuncId → Nat → Bool} {ci : CI} {ρ : Operand → AV} {σ : Store} (t : TypeId) (x : Operand) (a b c : Option Operand) : evO T br ci ρ σ (.slice t x a b c) = viaA σ (evA T ρ σ.clock (.slice t x a b c)) := by
  unfold evO viaA
  cases evA T ρ σ.clock (.slice t x a b c) with
  | none => rfl
  | some q => obtain ⟨y, ob⟩ := q; cases ob <;> rfl
theorem evO_index {T : Tab} {br : FuncId → Nat → Bool} {ci : CI} {ρ : Operand → AV} {σ : Store} (t : TypeId) (x i : Operand) : evO T br ci ρ σ (.index t x i) = viaA σ (evA T ρ σ.clock (.index t x i)) := by
  unfold evO viaA
  cases evA T ρ σ.clock (.index t x i) with
  | none => rfl
  | some q => obtain ⟨y, ob⟩ := q; cases ob <;> rfl
theorem evO_nilCheck {T : Tab} {br : FuncId → Nat → Bool} {ci : CI} {ρ : Operand → AV} {σ : Store} (x : Operand) : evO T br ci ρ σ (.nilCheck x) = viaA σ (evA T ρ σ.clock (.nilCheck x)) := by
  unfold evO viaA
  cases evA T ρ σ.clock (.nilCheck x) with
  | none => rfl
  | some q => obtain ⟨y, ob⟩ := q; cases ob <;> rfl
theorem evO_makeFunc {T : Tab} {br : FuncId → Nat → Bool} {ci : CI} {ρ : Operand → AV} {σ : Store} (f : Fn) (a b : Array Operand) : evO T br ci ρ σ (.makeFunc f a b) = viaA σ (evA T ρ σ.clock (.makeFunc f a b)) := by
  unfold evO viaA
  cases evA T ρ σ.clock (.makeFunc f a b) with
  | none => rfl
  | some q => obtain ⟨y, ob⟩ := q; cases ob <;> rfl
theorem evO_makeInterface {T : Tab} {br : FuncId → Nat → Bool} {ci : CI} {ρ : Operand → AV} {σ : Store} (t : TypeId) (x : Operand) : evO T br ci ρ σ (.makeInterface t x) = viaA σ (evA T ρ σ.clock (.makeInterface t x)) := by
  unfold evO viaA
  cases evA T ρ σ.clock (.makeInterface t x) with
  | none => rfl
  | some q => obtain ⟨y, ob⟩ := q; cases ob <;> rfl
theorem evO_len {T : Tab} {br : FuncId → Nat → Bool} {ci : CI} {ρ : Operand → AV} {σ : Store} (a : Array Operand) (t : Array TypeId) : evO T br ci ρ σ (.call ⟨.builtin .len, a, t⟩) = viaA σ (evA T ρ σ.clock (.call ⟨.builtin .len, a, t⟩)) := by
  unfold evO viaA
  cases evA T ρ σ.clock (.call ⟨.builtin .len, a, t⟩) with
  | none => rfl
  | some q => obtain ⟨y, ob⟩ := q; cases ob <;> rfl
theorem evO_min {T : Tab} {br : FuncId → Nat → Bool} {ci : CI} {ρ : Operand → AV} {σ : Store} (a : Array Operand) (t : Array TypeId) : evO T br ci ρ σ (.call ⟨.builtin .min, a, t⟩) = viaA σ (evA T ρ σ.clock (.call ⟨.builtin .min, a, t⟩)) := by
  unfold evO viaA
  cases evA T ρ σ.clock (.call ⟨.builtin .min, a, t⟩) with
  | none => rfl
  | some q => obtain ⟨y, ob⟩ := q; cases ob <;> rfl
theorem evO_max {T : Tab} {br : FuncId → Nat → Bool} {ci : CI} {ρ : Operand → AV} {σ : Store} (a : Array Operand) (t : Array TypeId) : evO T br ci ρ σ (.call ⟨.builtin .max, a, t⟩) = viaA σ (evA T ρ σ.clock (.call ⟨.builtin .max, a, t⟩)) := by
  unfold evO viaA
  cases evA T ρ σ.clock (.call ⟨.builtin .max, a, t⟩) with
  | none => rfl
  | some q => obtain ⟨y, ob⟩ := q; cases ob <;> rfl
end Go.Bx

/- From a law's reading to plain data, and from a contract to the law's call. (Own text.) -/
namespace Go.Bx
set_option linter.unusedVariables false
set_option linter.unusedSimpArgs false
set_option linter.unusedSectionVars false
open Go.RowKit
set_option linter.unusedVariables false

theorem list_of {α : Type} {c : α → Cs} {P : α → Prop} : ∀ {es : List Cs}, (∀ e ∈ es, ∃ x, e = c x ∧ P x) → ∃ l : List α, es = l.map c ∧ ∀ x ∈ l, P x
  | [], _ => ⟨[], rfl, fun x h => by cases h⟩
  | e :: es, h => by
    obtain ⟨x, hx, hp⟩ := h e (by simp)
    obtain ⟨l, hl, hq⟩ := list_of (es := es) (fun y hy => h y (by simp [hy]))
    exact ⟨x :: l, by rw [hx, hl]; rfl, fun y hy => by
      rcases List.mem_cons.1 hy with rfl | hy
      · exact hp
      · exact hq y hy⟩

section
variable {H : Type} {T : Tab} {n : Nat} {t : TypeId} {xs : Cs} {d : DataW H}
theorem shape_int {k : IntKind} (ht : tdesc T t = some (.int k)) (h : Shape T (n + 1) t xs d) : ∃ z, xs = cInt k z ∧ (Lit.int k z).wf = true := by
  unfold Shape at h; rw [ht] at h
  obtain ⟨z, h1, h2, h3⟩ := h; exact ⟨z, h1, h3⟩
theorem shape_bool (ht : tdesc T t = some .bool) (h : Shape T (n + 1) t xs d) : ∃ b, xs = cBool b := by
  unfold Shape at h; rw [ht] at h
  obtain ⟨z, h1, h2⟩ := h; exact ⟨z, h1⟩
theorem shape_str (ht : tdesc T t = some .str) (h : Shape T (n + 1) t xs d) : ∃ s : Str, xs = cStr s ∧ s.length ≤ reachBytes := by
  unfold Shape at h; rw [ht] at h
  obtain ⟨⟨⟨z⟩⟩, h1, h2, h3⟩ := h
  exact ⟨z, h1, h3⟩
theorem shape_slice {e : TypeId} {r : TRow} (ht : tdesc T t = some (.slice e)) (hr : T e = some r) {α : Type} (c : α → Cs) (P : α → Prop) (he : ∀ ys (y : DataW H), Shape T n e ys y → ∃ x, ys = c x ∧ P x) (h : Shape T (n + 1) t xs d) :
    ∃ l : List α, xs = [.sl (l.map c)] ∧ l.length * r.bytes ≤ reachBytes ∧ ∀ x ∈ l, P x := by
  unfold Shape at h; rw [ht] at h
  obtain ⟨es, h1, h2, h3⟩ := h
  have key : ∀ e ∈ es, ∃ x, e = c x ∧ P x := by
    rcases h3 with ⟨rfl, _⟩ | ⟨ds, rest, _, hl, hh⟩
    · intro e he; cases he
    · intro e' he'
      obtain ⟨i, hi⟩ := List.mem_iff_getElem?.1 he'
      have hlt := (List.getElem?_eq_some_iff.1 hi).1
      exact he _ _ (hh i e' (ds[i]'(by omega)) hi (by simp))
  obtain ⟨l, rfl, hp⟩ := list_of key
  exact ⟨l, h1, by simpa using h2 r hr, hp⟩
theorem shape_struct {fs : List (Nat × TypeId)} (ht : tdesc T t = some (.struct fs)) (h : Shape T (n + 1) t xs d) : ∃ ds : List (DataW H), ShapeF (fun t p (d : DataW H) => Shape T n t p d) fs xs ds := by
  unfold Shape at h; rw [ht] at h
  obtain ⟨ds, _, h1⟩ := h; exact ⟨ds, h1⟩
end
theorem shapeF_cons {H : Type} {S : TypeId → Cs → DataW H → Prop} {o : Nat} {t : TypeId} {fs : List (Nat × TypeId)} {xs : Cs} {ds : List (DataW H)} (h : ShapeF S ((o, t) :: fs) xs ds) : ∃ p q d r, xs = p ++ q ∧ S t p d ∧ ShapeF S fs q r := by
  obtain ⟨p, q, d, r, h1, _, h2, h3⟩ := h; exact ⟨p, q, d, r, h1, h2, h3⟩
theorem shapeF_nil {H : Type} {S : TypeId → Cs → DataW H → Prop} {xs : Cs} {ds : List (DataW H)} (h : ShapeF S [] xs ds) : xs = [] := h.1

theorem law_pure {E : Env} {W : World} (hG : GlOK E (rdCtx W)) {f : FuncId} {xs : Cs} {us : List Value} {b : Bool} (h : PureOK E f xs (.v (.bool b))) (hus : Reps (rdCtx W) xs us) (hnp : ∀ V, ¬ E.pan V := by exact fun _ h => h) :
    Calls E.P f us.toArray W fun e W' => e = .returned (.bool b) ∧ Below W.heap.size W W' := by
  obtain ⟨_, _, _, hc⟩ := h W.heap.size nilStore
  refine (hc (rdCtx W) us (rdInv W) hG hus).2.mono ?_
  rintro e w' (⟨v, c', rfl, rfl, he, _, hr, hf⟩ | ⟨V, _, hV, _⟩)
  rotate_left
  · exact absurd hV (hnp V)
  have hr' : Rep c' (.v (.bool b)) v := hr
  refine ⟨by cases hr'; rfl, he.os, he.tape, he.output, he.size, fun k hk => hf.block k hk (fun id o L ho => by cases ho)⟩
end Go.Bx

/- Runs of forgotten slots, kept folded. (Own text.) -/
namespace Go.Bx
set_option linter.unusedVariables false
set_option linter.unusedSimpArgs false
set_option linter.unusedSectionVars false

theorem jj_length : ∀ (n : Nat) (l : Cs), (jj n l).length = n + l.length
  | 0, l => by rw [jj_0, Nat.zero_add]
  | n + 1, l => by rw [jj_s, List.length_cons, jj_length n l]; omega
theorem jj_get_ge : ∀ {n i : Nat} {l : Cs}, n ≤ i → (jj n l)[i]? = l[i - n]?
  | 0, i, l, _ => by rw [jj_0, Nat.sub_zero]
  | n + 1, 0, l, h => by omega
  | n + 1, i + 1, l, h => by rw [jj_s, List.getElem?_cons_succ, jj_get_ge (by omega), Nat.add_sub_add_right]
theorem jj_get_lt : ∀ {n i : Nat} {l : Cs}, i < n → (jj n l)[i]? = some .junk
  | 0, i, l, h => by omega
  | n + 1, 0, l, h => by rw [jj_s, List.getElem?_cons_zero]
  | n + 1, i + 1, l, h => by rw [jj_s, List.getElem?_cons_succ, jj_get_lt (by omega)]
theorem jj_getD_ge {n i : Nat} {l : Cs} {d : AV} (h : n ≤ i) : (jj n l).getD i d = l.getD (i - n) d := by rw [List.getD_eq_getElem?_getD, jj_get_ge h, ← List.getD_eq_getElem?_getD]
theorem jj_getD_lt {n i : Nat} {l : Cs} {d : AV} (h : i < n) : (jj n l).getD i d = .junk := by rw [List.getD_eq_getElem?_getD, jj_get_lt h]; rfl
theorem jj_set_ge : ∀ {n i : Nat} {l : Cs} {v : AV}, n ≤ i → (jj n l).set i v = jj n (l.set (i - n) v)
  | 0, i, l, v, _ => by rw [jj_0, jj_0, Nat.sub_zero]
  | n + 1, 0, l, v, h => by omega
  | n + 1, i + 1, l, v, h => by rw [jj_s, List.set_cons_succ, jj_set_ge (by omega), Nat.add_sub_add_right, jj_s]
theorem jj_set_lt : ∀ {n i : Nat} {l : Cs} {v : AV}, i < n → (jj n l).set i v = jj i (v :: jj (n - i - 1) l)
  | 0, i, l, v, h => by omega
  | n + 1, 0, l, v, h => by rw [jj_s, List.set_cons_zero, jj_0]; rfl
  | n + 1, i + 1, l, v, h => by rw [jj_s, List.set_cons_succ, jj_set_lt (by omega), jj_s, Nat.add_sub_add_right]
theorem jj_drop_le : ∀ {n k : Nat} {l : Cs}, k ≤ n → (jj n l).drop k = jj (n - k) l
  | n, 0, l, _ => by rw [List.drop_zero, Nat.sub_zero]
  | 0, k + 1, l, h => by omega
  | n + 1, k + 1, l, h => by rw [jj_s, List.drop_succ_cons, jj_drop_le (by omega), Nat.add_sub_add_right]
theorem jj_drop_ge : ∀ {n k : Nat} {l : Cs}, n ≤ k → (jj n l).drop k = l.drop (k - n)
  | 0, k, l, _ => by rw [jj_0, Nat.sub_zero]
  | n + 1, 0, l, h => by omega
  | n + 1, k + 1, l, h => by rw [jj_s, List.drop_succ_cons, jj_drop_ge (by omega), Nat.add_sub_add_right]
/-! Without premises: the number tells. -/
theorem jj_getD (n i : Nat) (l : Cs) (d : AV) : (jj n l).getD i d = if n ≤ i then l.getD (i - n) d else .junk := by
  split
  · exact jj_getD_ge ‹_›
  · exact jj_getD_lt (by omega)
theorem jj_get (n i : Nat) (l : Cs) : (jj n l)[i]? = if n ≤ i then l[i - n]? else some .junk := by
  split
  · exact jj_get_ge ‹_›
  · exact jj_get_lt (by omega)
theorem jj_set (n i : Nat) (l : Cs) (v : AV) : (jj n l).set i v = if n ≤ i then jj n (l.set (i - n) v) else jj i (v :: jj (n - i - 1) l) := by
  split
  · exact jj_set_ge ‹_›
  · exact jj_set_lt (by omega)
theorem jj_drop (n k : Nat) (l : Cs) : (jj n l).drop k = if k ≤ n then jj (n - k) l else l.drop (k - n) := by
  split
  · exact jj_drop_le ‹_›
  · exact jj_drop_ge (by omega)
theorem WVs.jjT {σ : Store} {ρ : Nat → Option Nat} {vt : Nat → Bool} {ys : Cs} : ∀ {n : Nat} {xs : Cs}, n ≤ xs.length → WVs σ ρ vt (xs.drop n) ys → WVs σ ρ vt xs (jj n ys)
  | 0, xs, _, h => by rw [jj_0]; rwa [List.drop_zero] at h
  | n + 1, [], hn, _ => by simp at hn
  | n + 1, x :: xs, hn, h => by
    rw [jj_s]; rw [List.drop_succ_cons] at h
    exact .cons (.junk _) (WVs.jjT (by simpa using hn) h)
/-- A region that draws its order: the operations, and apart from them what the order asks. -/
theorem Wp.regionT {E : Env} {base : Nat} {c00 : Ctx} {σ00 : Store} {s : FS} {R : Post} (hU : Under E base c00 σ00) {ci : CI} (hci : CIOK E base ci) {id : Nat} {ops : Array Oper} {s1 : FS} {fs : List Fl} (h : evOps E ci ops ops.toList s = some (s1, fs))
    (hq : (regOK ops && calm (Region.before ops) fs) = true) (k : R .nrm s1) : Wp E base c00 σ00 (.region id ops true) s R := Wp.region hU hci (by simp only [evRegion, h, if_true, if_pos hq]) k
/-- The same, where some looks need no order. -/
theorem Wp.regionX {E : Env} {base : Nat} {c00 : Ctx} {σ00 : Store} {s : FS} {R : Post} (hU : Under E base c00 σ00) {ci : CI} (hci : CIOK E base ci) {id : Nat} {ops : Array Oper} {s1 : FS} {fs : List Fl} (xs : List (Nat × Nat)) (h : evOps E ci ops ops.toList s = some (s1, fs))
    (hq : (regOK ops && calmX xs (Region.before ops) fs) = true) (hx : ∀ x ∈ xs, XOK E ci ops s x) (k : R .nrm s1) : Wp E base c00 σ00 (.region id ops true) s R := fun cx a hS Q hQ =>
  region_okX hU.tab hci hU.inv hU.gl hU.mix hS xs h hq hx (fun a' c' hs => hQ .nrm s1 a' c' k hs) (fun V _ _ hV => absurd hV (hU.np V))
/-- A region of which one operation panics, in its text's order. -/
theorem Wp.regionP {E : Env} {base : Nat} {c00 : Ctx} {σ00 : Store} {s : FS} {R : Post} (hU : Under E base c00 σ00) {ci : CI} (hci : CIOK E base ci) {id : Nat} {ops : Array Oper} {s1 : FS} {fs : List Fl} {o : Oper} {V : Value} {md : Option Nat} (n : Nat)
    (h : evOps E ci ops (ops.toList.take n) s = some (s1, fs)) (hop : ops.toList[n]? = some o) (hw : wantedAV ops s1.tm o = some true) (hp : PanAt E base s1.tm s1.σ o V md) (k : R (.pan V) ⟨[], nilStore, omin s1.low (cut s1.c0 md), 0⟩) :
    Wp E base c00 σ00 (.region id ops false) s R := fun cx a hS Q hQ => by
  refine wp_region_list ?_
  have hl : ops.toList = ops.toList.take n ++ o :: ops.toList.drop (n + 1) := by
    have h1 := (List.getElem?_eq_some_iff.1 hop)
    rw [← h1.2, ← List.drop_eq_getElem_cons h1.1, List.take_append_drop]
  have := list_pan (ops := ops) (post := ops.toList.drop (n + 1)) (Q := Q) hU.tab hci hU.inv hU.gl hU.np (ops.toList.take n) hS h hw hp (fun a' c' h1 h2 h3 => hQ (.pan V) ⟨[], nilStore, omin s1.low (cut s1.c0 md), 0⟩ a' c' k ⟨h1, h2, h3⟩)
  rw [← hl] at this; exact this
/-- The same, of a region that draws its order. -/
theorem Wp.regionPX {E : Env} {base : Nat} {c00 : Ctx} {σ00 : Store} {s : FS} {R : Post} (hU : Under E base c00 σ00) {ci : CI} (hci : CIOK E base ci) {id : Nat} {ops : Array Oper} {s1 sp : FS} {fs fsp : List Fl} {o : Oper} {V : Value} {md : Option Nat} (N : List Nat) (p : Nat) (xs : List (Nat × Nat))
    (h : evOpsM E ci ops N p 0 ops.toList s = some (s1, fs)) (hop : ops.toList[p]? = some o) (hsp : evOpsM E ci ops N p 0 (ops.toList.take p) s = some (sp, fsp))
    (hq : (regOK ops && calmX xs (Region.before ops) fs && N.contains p && N.all fun k => k == p || ((Region.before ops).getD k 0).testBit p) = true)
    (hx : ∀ x ∈ xs, XOKM E ci ops N p s x) (hw : wantedAV ops sp.tm o = some true) (hp : PanAt E base sp.tm sp.σ o V md) (k : R (.pan V) ⟨[], nilStore, omin s1.low (cut s1.c0 md), 0⟩) :
    Wp E base c00 σ00 (.region id ops true) s R := fun cx a hS Q hQ =>
  region_panX hU.tab hci hU.inv hU.gl hU.mix hS N p xs hU.np h hop hsp hq hx hw hp (fun a' c' h1 h2 h3 => hQ (.pan V) ⟨[], nilStore, omin s1.low (cut s1.c0 md), 0⟩ a' c' k ⟨h1, h2, h3⟩)
end Go.Bx

/- A call that is handed objects: its contract, from a run in a store of these objects alone. (Own text.) -/
namespace Go.Bx
set_option linter.unusedVariables false
set_option linter.unusedSimpArgs false
set_option linter.unusedSectionVars false
set_option linter.unusedVariables false
set_option linter.unusedSimpArgs false
set_option linter.unusedSectionVars false

/-! ### numbers anew -/
def rn0 (g : Nat → Nat) : AV → AV
  | .row id sz lo n => .row (g id) sz lo n
  | .ptr id i off => .ptr (g id) i off
  | .tptr id t => .tptr (g id) t
  | .slf id => .slf (g id)
  | .trow id t n => .trow (g id) t n
  | x => x
def rn1 (g : Nat → Nat) : AV → AV
  | .fn f a b => .fn f (a.map (rn0 g)) (b.map (rn0 g))
  | x => rn0 g x
def rn2 (g : Nat → Nat) : AV → AV
  | .agg cs => .agg (cs.map (rn1 g))
  | x => rn1 g x
def rn3 (g : Nat → Nat) : AV → AV
  | .tup vs => .tup (vs.map (rn2 g))
  | x => rn2 g x
def rnO (g : Nat → Nat) (o : Obj) : Obj := ⟨o.sz, o.sh, o.flat, if o.flat then o.es else o.es.map fun e => e.map (rn1 g)⟩
def id0 : AV → List Nat
  | .row id _ _ _ => [id]
  | .ptr id _ _ => [id]
  | .tptr id _ => [id]
  | .slf id => [id]
  | .trow id _ _ => [id]
  | _ => []
def id1 : AV → List Nat
  | .fn _ a b => a.flatMap id0 ++ b.flatMap id0
  | x => id0 x
def id2 : AV → List Nat
  | .agg cs => cs.flatMap id1
  | x => id1 x
def id3 : AV → List Nat
  | .tup vs => vs.flatMap id2
  | x => id2 x
def idO (o : Obj) : List Nat := if o.flat then [] else o.es.flatMap fun e => e.flatMap id1
def sh0 : AV → Bool
  | .row _ _ _ _ => true
  | .ptr _ _ _ => true
  | .tptr _ _ => true
  | .slf _ => true
  | .trow _ _ _ => true
  | .own _ _ _ => false
  | x => closed x
def sh1 : AV → Bool
  | .fn _ a b => a.all sh0 && b.all sh0
  | x => sh0 x
def sh2 : AV → Bool
  | .agg cs => cs.all sh1
  | x => sh1 x
def sh3 : AV → Bool
  | .tup vs => vs.all sh2
  | x => sh2 x
def shO (o : Obj) : Bool := o.flat || o.es.all fun e => e.all sh1

theorem split0 (x : AV) : (∃ id sz lo n, x = .row id sz lo n) ∨ (∃ id i off, x = .ptr id i off) ∨ (∃ sh sz es, x = .own sh sz es) ∨ (∃ id t, x = .tptr id t) ∨ (∃ id, x = .slf id) ∨ (∃ id t n, x = .trow id t n) ∨ (id0 x = [] ∧ (∀ g, rn0 g x = x) ∧ sh0 x = closed x) := by
  cases x
  case row => exact .inl ⟨_, _, _, _, rfl⟩
  case ptr => exact .inr (.inl ⟨_, _, _, rfl⟩)
  case own => exact .inr (.inr (.inl ⟨_, _, _, rfl⟩))
  case tptr => exact .inr (.inr (.inr (.inl ⟨_, _, rfl⟩)))
  case slf => exact .inr (.inr (.inr (.inr (.inl ⟨_, rfl⟩))))
  case trow => exact .inr (.inr (.inr (.inr (.inr (.inl ⟨_, _, _, rfl⟩)))))
  all_goals exact .inr (.inr (.inr (.inr (.inr (.inr ⟨rfl, fun _ => rfl, rfl⟩)))))
theorem split1 (x : AV) : (∃ f a b, x = .fn f a b) ∨ (id1 x = id0 x ∧ (∀ g, rn1 g x = rn0 g x) ∧ sh1 x = sh0 x) := by
  cases x
  case fn => exact .inl ⟨_, _, _, rfl⟩
  all_goals exact .inr ⟨rfl, fun _ => rfl, rfl⟩
theorem split2 (x : AV) : (∃ cs, x = .agg cs) ∨ (id2 x = id1 x ∧ (∀ g, rn2 g x = rn1 g x) ∧ sh2 x = sh1 x) := by
  cases x
  case agg => exact .inl ⟨_, rfl⟩
  all_goals exact .inr ⟨rfl, fun _ => rfl, rfl⟩
theorem split3 (x : AV) : (∃ cs, x = .tup cs) ∨ (id3 x = id2 x ∧ (∀ g, rn3 g x = rn2 g x) ∧ sh3 x = sh2 x) := by
  cases x
  case tup => exact .inl ⟨_, rfl⟩
  all_goals exact .inr ⟨rfl, fun _ => rfl, rfl⟩

section
variable {c c' : Ctx} {g : Nat → Nat} (hw : c'.w = c.w) (hS : c'.S = c.S)
include hw hS
theorem rep_rn0 {x : AV} {u : Value} (hg : ∀ i ∈ id0 x, ∀ l, c.m i = some l → c'.m (g i) = some l) (hx : sh0 x = true) (h : Rep c x u) : Rep c' (rn0 g x) u := by
  rcases split0 x with ⟨id, sz, lo, n, rfl⟩ | ⟨id, i, off, rfl⟩ | ⟨sh, sz, es, rfl⟩ | ⟨id, t, rfl⟩ | ⟨id, rfl⟩ | ⟨id, t, n, rfl⟩ | ⟨_, hr, hc⟩
  · cases h with
    | row L hm h2 h3 h4 h5 => exact .row L (hg _ (by simp [id0]) _ hm) h2 h3 h4 h5
    | row0 hm => exact .row0 (hg _ (by simp [id0]) _ hm)
  · cases h with
    | ptr L hm => exact .ptr L (hg _ (by simp [id0]) _ hm)
  · simp [sh0] at hx
  · cases h with
    | tptr L hm h2 h3 => exact .tptr L (hg _ (by simp [id0]) _ hm) h2 (by rw [hw]; exact h3)
  · cases h with
    | slf0 => exact .slf0
    | slf L hm h2 => exact .slf L (hg _ (by simp [id0]) _ hm) h2
  · cases h with
    | trow L hm h2 h3 h4 h5 h6 => exact .trow L (hg _ (by simp [id0]) _ hm) h2 h3 (by rw [hw]; exact h4) h5 h6
    | trow0 hm => exact .trow0 (hg _ (by simp [id0]) _ hm)
  · rw [hr]; exact Rep.moveC hw hS h (by rw [← hc]; exact hx)
theorem rep_un0 {x : AV} {u : Value} (hg : ∀ i ∈ id0 x, ∀ l, c.m (g i) = some l → c'.m i = some l) (hx : sh0 x = true) (h : Rep c (rn0 g x) u) : Rep c' x u := by
  rcases split0 x with ⟨id, sz, lo, n, rfl⟩ | ⟨id, i, off, rfl⟩ | ⟨sh, sz, es, rfl⟩ | ⟨id, t, rfl⟩ | ⟨id, rfl⟩ | ⟨id, t, n, rfl⟩ | ⟨_, hr, hc⟩
  · cases h with
    | row L hm h2 h3 h4 h5 => exact .row L (hg _ (by simp [id0]) _ hm) h2 h3 h4 h5
    | row0 hm => exact .row0 (hg _ (by simp [id0]) _ hm)
  · cases h with
    | ptr L hm => exact .ptr L (hg _ (by simp [id0]) _ hm)
  · simp [sh0] at hx
  · cases h with
    | tptr L hm h2 h3 => exact .tptr L (hg _ (by simp [id0]) _ hm) h2 (by rw [hw]; exact h3)
  · cases h with
    | slf0 => exact .slf0
    | slf L hm h2 => exact .slf L (hg _ (by simp [id0]) _ hm) h2
  · cases h with
    | trow L hm h2 h3 h4 h5 h6 => exact .trow L (hg _ (by simp [id0]) _ hm) h2 h3 (by rw [hw]; exact h4) h5 h6
    | trow0 hm => exact .trow0 (hg _ (by simp [id0]) _ hm)
  · rw [hr] at h; exact Rep.moveC hw hS h (by rw [← hc]; exact hx)
theorem rep_rn1 {x : AV} {u : Value} (hg : ∀ i ∈ id1 x, ∀ l, c.m i = some l → c'.m (g i) = some l) (hx : sh1 x = true) (h : Rep c x u) : Rep c' (rn1 g x) u := by
  rcases split1 x with ⟨f, a, b, rfl⟩ | ⟨h1, h2, h3⟩
  · skip
    simp only [sh1, Bool.and_eq_true, List.all_eq_true] at hx
    simp only [id1, List.mem_append, List.mem_flatMap] at hg
    cases h with
    | fn hl hl' h h' =>
      refine .fn (by simpa using hl) (by simpa using hl') (fun j y v h1 h2 => ?_) (fun j y v h1 h2 => ?_)
      · simp only [List.getElem?_map, Option.map_eq_some_iff] at h1
        obtain ⟨z, hz, rfl⟩ := h1
        exact rep_rn0 hw hS (fun i hi => hg i (.inl ⟨z, List.mem_of_getElem? hz, hi⟩)) (hx.1 z (List.mem_of_getElem? hz)) (h j z v hz h2)
      · simp only [List.getElem?_map, Option.map_eq_some_iff] at h1
        obtain ⟨z, hz, rfl⟩ := h1
        exact rep_rn0 hw hS (fun i hi => hg i (.inr ⟨z, List.mem_of_getElem? hz, hi⟩)) (hx.2 z (List.mem_of_getElem? hz)) (h' j z v hz h2)
  · rw [h2]; rw [h1] at hg; rw [h3] at hx; exact rep_rn0 hw hS hg hx h
theorem rep_un1 {x : AV} {u : Value} (hg : ∀ i ∈ id1 x, ∀ l, c.m (g i) = some l → c'.m i = some l) (hx : sh1 x = true) (h : Rep c (rn1 g x) u) : Rep c' x u := by
  rcases split1 x with ⟨f, a, b, rfl⟩ | ⟨h1, h2, h3⟩
  · skip
    simp only [sh1, Bool.and_eq_true, List.all_eq_true] at hx
    simp only [id1, List.mem_append, List.mem_flatMap] at hg
    simp only [rn1] at h
    cases h with
    | fn hl hl' h h' =>
      refine .fn (by simpa using hl) (by simpa using hl') (fun j z v hz h2 => ?_) (fun j z v hz h2 => ?_)
      · exact rep_un0 hw hS (fun i hi => hg i (.inl ⟨z, List.mem_of_getElem? hz, hi⟩)) (hx.1 z (List.mem_of_getElem? hz)) (h j (rn0 g z) v (by simp [hz]) h2)
      · exact rep_un0 hw hS (fun i hi => hg i (.inr ⟨z, List.mem_of_getElem? hz, hi⟩)) (hx.2 z (List.mem_of_getElem? hz)) (h' j (rn0 g z) v (by simp [hz]) h2)
  · rw [h2] at h; rw [h1] at hg; rw [h3] at hx; exact rep_un0 hw hS hg hx h
theorem rep_rn2 {x : AV} {u : Value} (hg : ∀ i ∈ id2 x, ∀ l, c.m i = some l → c'.m (g i) = some l) (hx : sh2 x = true) (h : Rep c x u) : Rep c' (rn2 g x) u := by
  rcases split2 x with ⟨cs, rfl⟩ | ⟨h1, h2, h3⟩
  · skip
    simp only [sh2, List.all_eq_true] at hx
    simp only [id2, List.mem_flatMap] at hg
    cases h with
    | agg hl h =>
      refine .agg (by simpa using hl) (fun j y v h1 h2 => ?_)
      simp only [List.getElem?_map, Option.map_eq_some_iff] at h1
      obtain ⟨z, hz, rfl⟩ := h1
      exact rep_rn1 hw hS (fun i hi => hg i ⟨z, List.mem_of_getElem? hz, hi⟩) (hx z (List.mem_of_getElem? hz)) (h j z v hz h2)
  · rw [h2]; rw [h1] at hg; rw [h3] at hx; exact rep_rn1 hw hS hg hx h
theorem rep_un2 {x : AV} {u : Value} (hg : ∀ i ∈ id2 x, ∀ l, c.m (g i) = some l → c'.m i = some l) (hx : sh2 x = true) (h : Rep c (rn2 g x) u) : Rep c' x u := by
  rcases split2 x with ⟨cs, rfl⟩ | ⟨h1, h2, h3⟩
  · skip
    simp only [sh2, List.all_eq_true] at hx
    simp only [id2, List.mem_flatMap] at hg
    simp only [rn2] at h
    cases h with
    | agg hl h =>
      refine .agg (by simpa using hl) (fun j z v hz h2 => ?_)
      exact rep_un1 hw hS (fun i hi => hg i ⟨z, List.mem_of_getElem? hz, hi⟩) (hx z (List.mem_of_getElem? hz)) (h j (rn1 g z) v (by simp [hz]) h2)
  · rw [h2] at h; rw [h1] at hg; rw [h3] at hx; exact rep_un1 hw hS hg hx h
theorem rep_rn3 {x : AV} {u : Value} (hg : ∀ i ∈ id3 x, ∀ l, c.m i = some l → c'.m (g i) = some l) (hx : sh3 x = true) (h : Rep c x u) : Rep c' (rn3 g x) u := by
  rcases split3 x with ⟨cs, rfl⟩ | ⟨h1, h2, h3⟩
  · skip
    simp only [sh3, List.all_eq_true] at hx
    simp only [id3, List.mem_flatMap] at hg
    cases h with
    | tup hl h =>
      refine .tup (by simpa using hl) (fun j y v h1 h2 => ?_)
      simp only [List.getElem?_map, Option.map_eq_some_iff] at h1
      obtain ⟨z, hz, rfl⟩ := h1
      exact rep_rn2 hw hS (fun i hi => hg i ⟨z, List.mem_of_getElem? hz, hi⟩) (hx z (List.mem_of_getElem? hz)) (h j z v hz h2)
  · rw [h2]; rw [h1] at hg; rw [h3] at hx; exact rep_rn2 hw hS hg hx h
end

theorem leaf_rn1 {g : Nat → Nat} (x : AV) : leaf (rn1 g x) = leaf x := by cases x <;> rfl

theorem obj_rn {c c' : Ctx} {g : Nat → Nat} (hw : c'.w = c.w) (hS : c'.S = c.S) {base : Nat} {o : Obj} {L : Loc} (hg : ∀ i ∈ idO o, ∀ l, c.m i = some l → c'.m (g i) = some l) (hx : shO o = true) (h : ObjOK c base o L) : ObjOK c' base (rnO g o) L := by
  cases hf : o.flat with
  | true =>
    have he : rnO g o = o := by cases o; simp_all [rnO]
    rw [he]
    refine ⟨h.sz, h.base, h.tot, h.wid, h.leafs, h.flat, ?_⟩
    obtain ⟨arr, T, h1, h2, h3⟩ := h.mem
    refine ⟨arr, T, by rw [hw]; exact h1, h2, fun i e j x hi hj => ?_⟩
    obtain ⟨u, h4, h5, h6⟩ := h3 i e j x hi hj
    exact ⟨u, h4, h5.move hw hS (h.flat hf e (List.mem_of_getElem? hi) x (List.mem_of_getElem? hj)), by rw [hS]; exact h6⟩
  | false =>
    have he : (rnO g o).es = o.es.map fun e => e.map (rn1 g) := by simp [rnO, hf]
    simp only [shO, hf, Bool.false_or, List.all_eq_true] at hx
    simp only [idO, hf, Bool.false_eq_true, if_false, List.mem_flatMap] at hg
    refine ⟨h.sz, h.base, by rw [he]; simpa using h.tot, ?_, ?_, fun hh => (by simp [rnO, hf] at hh), ?_⟩
    · rw [he]; intro e he'
      obtain ⟨e0, h0, rfl⟩ := List.mem_map.1 he'
      simpa [rnO] using h.wid e0 h0
    · rw [he]; intro e he' x hx'
      obtain ⟨e0, h0, rfl⟩ := List.mem_map.1 he'
      obtain ⟨x0, h0', rfl⟩ := List.mem_map.1 hx'
      rw [leaf_rn1]; exact h.leafs e0 h0 x0 h0'
    · obtain ⟨arr, T, h1, h2, h3⟩ := h.mem
      refine ⟨arr, T, by rw [hw]; exact h1, h2, fun i e j x hi hj => ?_⟩
      rw [he, List.getElem?_map, Option.map_eq_some_iff] at hi
      obtain ⟨e0, hi, rfl⟩ := hi
      rw [List.getElem?_map, Option.map_eq_some_iff] at hj
      obtain ⟨x0, hj, rfl⟩ := hj
      obtain ⟨u, h4, h5, h6⟩ := h3 i e0 j x0 hi hj
      exact ⟨u, h4, rep_rn1 hw hS (fun q hq => hg q ⟨e0, List.mem_of_getElem? hi, x0, List.mem_of_getElem? hj, hq⟩) (hx e0 (List.mem_of_getElem? hi) x0 (List.mem_of_getElem? hj)) h5, by rw [hS]; exact h6⟩

theorem obj_un {c c' : Ctx} {g : Nat → Nat} (hw : c'.w = c.w) (hS : c'.S = c.S) {base : Nat} {o : Obj} {L : Loc} (hg : ∀ i ∈ idO o, ∀ l, c.m (g i) = some l → c'.m i = some l) (hx : shO o = true) (h : ObjOK c base (rnO g o) L) : ObjOK c' base o L := by
  cases hf : o.flat with
  | true =>
    have he : rnO g o = o := by cases o; simp_all [rnO]
    rw [he] at h
    refine ⟨h.sz, h.base, h.tot, h.wid, h.leafs, h.flat, ?_⟩
    obtain ⟨arr, T, h1, h2, h3⟩ := h.mem
    refine ⟨arr, T, by rw [hw]; exact h1, h2, fun i e j x hi hj => ?_⟩
    obtain ⟨u, h4, h5, h6⟩ := h3 i e j x hi hj
    exact ⟨u, h4, h5.move hw hS (h.flat hf e (List.mem_of_getElem? hi) x (List.mem_of_getElem? hj)), by rw [hS]; exact h6⟩
  | false =>
    have he : (rnO g o).es = o.es.map fun e => e.map (rn1 g) := by simp [rnO, hf]
    simp only [shO, hf, Bool.false_or, List.all_eq_true] at hx
    simp only [idO, hf, Bool.false_eq_true, if_false, List.mem_flatMap] at hg
    refine ⟨h.sz, h.base, by simpa [he] using h.tot, ?_, ?_, fun hh => (by rw [hf] at hh; cases hh), ?_⟩
    · intro e he'
      have := h.wid (e.map (rn1 g)) (by rw [he]; exact List.mem_map.2 ⟨e, he', rfl⟩)
      simpa [rnO] using this
    · intro e he' x hx'
      have := h.leafs (e.map (rn1 g)) (by rw [he]; exact List.mem_map.2 ⟨e, he', rfl⟩) (rn1 g x) (List.mem_map.2 ⟨x, hx', rfl⟩)
      rwa [leaf_rn1] at this
    · obtain ⟨arr, T, h1, h2, h3⟩ := h.mem
      refine ⟨arr, T, by rw [hw]; exact h1, h2, fun i e0 j x0 hi hj => ?_⟩
      obtain ⟨u, h4, h5, h6⟩ := h3 i (e0.map (rn1 g)) j (rn1 g x0) (by rw [he, List.getElem?_map, hi]; rfl) (by rw [List.getElem?_map, hj]; rfl)
      exact ⟨u, h4, rep_un1 hw hS (fun q hq => hg q ⟨e0, List.mem_of_getElem? hi, x0, List.mem_of_getElem? hj, hq⟩) (hx e0 (List.mem_of_getElem? hi) x0 (List.mem_of_getElem? hj)) h5, by rw [hS]; exact h6⟩

/-! ### what bears no own row is imported as it is -/
theorem import1_sh (σ : Store) {x : AV} (h : sh1 x = true) : import1 σ x = (x, σ) := by
  cases x <;> first | rfl | simp [sh1, sh0] at h
theorem importL_sh : ∀ (xs : Cs) (σ : Store), xs.all sh1 = true → importL σ xs = (xs, σ)
  | [], σ, _ => rfl
  | x :: xs, σ, h => by
    simp only [List.all_cons, Bool.and_eq_true] at h
    simp only [importL, import1_sh σ h.1, importL_sh xs σ h.2]
theorem import2_sh (σ : Store) {x : AV} (h : sh2 x = true) : import2 σ x = (x, σ) := by
  rcases split2 x with ⟨cs, rfl⟩ | ⟨h1, h2, h3⟩
  · simp only [import2, importL_sh cs σ h]
  · rw [h3] at h; rw [← import1_sh σ h]; cases x <;> first | rfl | simp_all [sh1, sh0, closed]
theorem import2L_sh : ∀ (xs : Cs) (σ : Store), xs.all sh2 = true → import2L σ xs = (xs, σ)
  | [], σ, _ => rfl
  | x :: xs, σ, h => by
    simp only [List.all_cons, Bool.and_eq_true] at h
    simp only [import2L, import2_sh σ h.1, import2L_sh xs σ h.2]
theorem importAV_sh (σ : Store) {x : AV} (h : sh3 x = true) : importAV σ x = (x, σ) := by
  rcases split3 x with ⟨vs, rfl⟩ | ⟨h1, h2, h3⟩
  · simp only [importAV, import2L_sh vs σ h]
  · rw [h3] at h; rw [← import2_sh σ h]; cases x <;> first | rfl | simp_all [sh2, sh1, sh0, closed]
theorem sh0_rn (g : Nat → Nat) {x : AV} (h : sh0 x = true) : sh0 (rn0 g x) = true := by
  cases x <;> simp_all [sh0, rn0]
theorem sh1_rn (g : Nat → Nat) {x : AV} (h : sh1 x = true) : sh1 (rn1 g x) = true := by
  rcases split1 x with ⟨f, a, b, rfl⟩ | ⟨h1, h2, h3⟩
  · skip
    simp only [sh1, rn1, Bool.and_eq_true, List.all_eq_true, List.mem_map] at h ⊢
    exact ⟨fun y ⟨z, hz, e⟩ => e ▸ sh0_rn g (h.1 z hz), fun y ⟨z, hz, e⟩ => e ▸ sh0_rn g (h.2 z hz)⟩
  · rw [h2]; rw [h3] at h; have := sh0_rn g h; cases x <;> simp_all [sh1, sh0, rn0, closed]
theorem sh2_rn (g : Nat → Nat) {x : AV} (h : sh2 x = true) : sh2 (rn2 g x) = true := by
  rcases split2 x with ⟨cs, rfl⟩ | ⟨h1, h2, h3⟩
  · skip
    simp only [sh2, rn2, List.all_eq_true, List.mem_map] at h ⊢
    exact fun y ⟨z, hz, e⟩ => e ▸ sh1_rn g (h z hz)
  · rw [h2]; rw [h3] at h; have := sh1_rn g h; cases x <;> simp_all [sh2, sh1, sh0, rn1, rn0, closed]
theorem sh3_rn (g : Nat → Nat) {x : AV} (h : sh3 x = true) : sh3 (rn3 g x) = true := by
  rcases split3 x with ⟨vs, rfl⟩ | ⟨h1, h2, h3⟩
  · skip
    simp only [sh3, rn3, List.all_eq_true, List.mem_map] at h ⊢
    exact fun y ⟨z, hz, e⟩ => e ▸ sh2_rn g (h z hz)
  · rw [h2]; rw [h3] at h; have := sh2_rn g h; cases x <;> simp_all [sh3, sh2, sh1, sh0, rn2, rn1, rn0, closed]

/-! ### the small store within the great one -/
def gx (g : Nat → Nat) (k n : Nat) : Nat → Nat := fun j => if j < k then g j else j - k + n
def ixOf (g : Nat → Nat) : Nat → Nat → Option Nat
  | 0, _ => none
  | k + 1, id => if g k = id then some k else ixOf g k id
theorem ixOf_some {g : Nat → Nat} : ∀ {k id j : Nat}, ixOf g k id = some j → j < k ∧ g j = id
  | 0, id, j, h => by simp [ixOf] at h
  | k + 1, id, j, h => by
    simp only [ixOf] at h
    split at h
    · cases h; exact ⟨Nat.lt_succ_self _, ‹_›⟩
    · have := ixOf_some h; exact ⟨by omega, this.2⟩
theorem ixOf_none {g : Nat → Nat} : ∀ {k id j : Nat}, ixOf g k id = none → j < k → g j ≠ id
  | 0, id, j, h, hj => by omega
  | k + 1, id, j, h, hj => by
    simp only [ixOf] at h
    split at h
    · cases h
    · rename_i hne
      by_cases e : j = k
      · subst e; exact hne
      · exact ixOf_none h (by omega)
theorem ixOf_of {g : Nat → Nat} {k j : Nat} (hg : ∀ i j, i < k → j < k → g i = g j → i = j) (hj : j < k) : ixOf g k (g j) = some j := by
  cases h : ixOf g k (g j) with
  | none => exact absurd rfl (ixOf_none h hj)
  | some i => obtain ⟨h1, h2⟩ := ixOf_some h; rw [hg i j h1 hj h2]

def great (σ : Store) (g : Nat → Nat) (k : Nat) (objs : List (Option Obj)) : Store :=
  ⟨σ.clock + (objs.length - k), fun id => match (if id < σ.clock then ixOf g k id else some (id - σ.clock + k)) with
    | some j => ((objs[j]?).getD none).map (rnO (gx g k σ.clock))
    | none => σ.ob id⟩

/-- A state from which the call returns this, and leaves this store. -/
def RtR (E : Env) (base : Nat) (c00 : Ctx) (σ00 : Store) (fn : Func) (r : AV) (objs : List (Option Obj)) (s : FS) : Prop :=
  ∃ s2, Wk base c00 σ00 s s2 ∧ s2.σ = St objs ∧ ∃ xs, mapO (resAV E.T s2.tm s2.σ) fn.results.toList = some xs ∧ r = one xs

theorem rep_one {c : Ctx} : ∀ {xs : Cs} {vs : List Value}, Reps c xs vs → Rep c (one xs) (oneV vs)
  | [], [], h => .tup rfl (fun j x u h => by simp at h)
  | [x], [v], h => h.2 0 x v rfl rfl
  | x :: y :: xs, v :: w :: vs, h => .tup (by simpa using h.1.symm) (fun j z u h1 h2 => h.2 j z u h1 (by simpa using h2))
  | [], v :: vs, h => by simp [Reps] at h
  | [x], [], h => by simp [Reps] at h
  | [x], v :: w :: vs, h => by simp [Reps] at h
  | x :: y :: xs, [], h => by simp [Reps] at h
  | x :: y :: xs, [v], h => by simp [Reps] at h

/-- What an object leads to for sure. -/
def ir0 : AV → List Nat
  | .slf _ => []
  | x => id0 x
def ir1 : AV → List Nat
  | .fn _ a b => a.flatMap ir0 ++ b.flatMap ir0
  | x => ir0 x
def ir2 : AV → List Nat
  | .agg cs => cs.flatMap ir1
  | x => ir1 x
def irO (o : Obj) : List Nat := if o.flat then [] else o.es.flatMap fun e => e.flatMap ir1
theorem reach1 {c : Ctx} {x : AV} {u : Value} {j : Nat} (h : Rep c x u) (hj : j ∈ ir1 x) : c.m j ≠ none := by
  have key : ∀ {x : AV} {u : Value}, Rep c x u → j ∈ ir0 x → c.m j ≠ none := fun {x u} h hj => by
    cases h <;> simp [ir0, id0] at hj
    · rename_i hm _ _ _ _; subst hj; rw [hm]; simp
    · rename_i hm; subst hj; rw [hm]; simp
    · rename_i hm; subst hj; rw [hm]; simp
    · rename_i hm _ _; subst hj; rw [hm]; simp
    · rename_i hm _ _ _ _ _; subst hj; rw [hm]; simp
    · rename_i hm; subst hj; rw [hm]; simp
  have h1' : (∃ f a b, x = .fn f a b) ∨ ir1 x = ir0 x := by cases x <;> first | exact .inl ⟨_, _, _, rfl⟩ | exact .inr rfl
  rcases h1' with ⟨f, a, b, rfl⟩ | h1
  · skip
    simp only [ir1, List.mem_append, List.mem_flatMap] at hj
    cases h with
    | fn hl hl' h h' =>
      rcases hj with ⟨z, hz, hj⟩ | ⟨z, hz, hj⟩
      · obtain ⟨q, hq, rfl⟩ := List.mem_iff_getElem.1 hz
        exact key (h q _ _ (List.getElem?_eq_getElem hq) (Array.getElem?_eq_getElem (by omega))) hj
      · obtain ⟨q, hq, rfl⟩ := List.mem_iff_getElem.1 hz
        exact key (h' q _ _ (List.getElem?_eq_getElem hq) (Array.getElem?_eq_getElem (by omega))) hj
  · rw [h1] at hj; exact key h hj
theorem reach2 {c : Ctx} {x : AV} {u : Value} {j : Nat} (h : Rep c x u) (hj : j ∈ ir2 x) : c.m j ≠ none := by
  have h1' : (∃ cs, x = .agg cs) ∨ ir2 x = ir1 x := by cases x <;> first | exact .inl ⟨_, rfl⟩ | exact .inr rfl
  rcases h1' with ⟨cs, rfl⟩ | h1
  · skip
    simp only [ir2, List.mem_flatMap] at hj
    cases h with
    | agg hl h =>
      obtain ⟨z, hz, hj⟩ := hj
      obtain ⟨q, hq, rfl⟩ := List.mem_iff_getElem.1 hz
      exact reach1 (h q _ _ (List.getElem?_eq_getElem hq) (Array.getElem?_eq_getElem (by omega))) hj
  · rw [h1] at hj; exact reach1 h hj
end Go.Bx

/- A call that is handed objects: its contract, from a run in a store of these objects alone: the proof. (Own text.) -/
namespace Go.Bx
set_option linter.unusedVariables false
set_option linter.unusedSimpArgs false
set_option linter.unusedSectionVars false
set_option linter.unusedVariables false
set_option linter.unusedSimpArgs false
set_option linter.unusedSectionVars false

def irOo : Option Obj → List Nat
  | some o => irO o
  | none => []
def idOo : Option Obj → List Nat
  | some o => idO o
  | none => []
def shOo : Option Obj → Bool
  | some o => shO o
  | none => true
/-- What is asked of the forms. -/
def refOK (k : Nat) (args : Cs) (objs : List (Option Obj)) (r : AV) (objs' : List (Option Obj)) : Bool :=
  objs.length == k && (k ≤ objs'.length) && args.all sh2 && (args.flatMap id2).all (· < k) && objs.all shOo && (objs.flatMap idOo).all (· < k) &&
  ((List.range k).all fun j => (args.flatMap ir2).contains j || ((objs.take j).flatMap irOo).contains j) &&
  sh3 r && (id3 r).all (· < objs'.length) && objs'.all shOo && (objs'.flatMap idOo).all (· < objs'.length) &&
  ((List.range k).all fun j => (objs'[j]?).join.isNone || (objs[j]?).join.isSome)

structure RefOK (k : Nat) (args : Cs) (objs : List (Option Obj)) (r : AV) (objs' : List (Option Obj)) : Prop where
  hk : objs.length = k
  hk' : k ≤ objs'.length
  hsa : ∀ x ∈ args, sh2 x = true
  hia : ∀ x ∈ args, ∀ i ∈ id2 x, i < k
  hso : ∀ o, some o ∈ objs → shO o = true ∧ ∀ i ∈ idO o, i < k
  hreach : ∀ j, j < k → (∃ x ∈ args, j ∈ ir2 x) ∨ ∃ i o, i < j ∧ objs[i]? = some (some o) ∧ j ∈ irO o
  hsr : sh3 r = true
  hir : ∀ i ∈ id3 r, i < objs'.length
  hso' : ∀ o, some o ∈ objs' → shO o = true ∧ ∀ i ∈ idO o, i < objs'.length
  hlive : ∀ j, j < k → ∀ o, objs'[j]? = some (some o) → ∃ q, objs[j]? = some (some q)

theorem refOK_of {k : Nat} {args : Cs} {objs objs' : List (Option Obj)} {r : AV} (h : refOK k args objs r objs' = true) : RefOK k args objs r objs' := by
  simp only [refOK, Bool.and_eq_true, List.all_eq_true, beq_iff_eq, decide_eq_true_eq, Bool.or_eq_true, List.mem_range, List.contains_iff_mem, List.mem_flatMap] at h
  obtain ⟨⟨⟨⟨⟨⟨⟨⟨⟨⟨⟨h1, h2⟩, h3⟩, h4⟩, h5⟩, h6⟩, h7⟩, h8⟩, h9⟩, h10⟩, h11⟩, h12⟩ := h
  refine ⟨h1, h2, h3, fun x hx i hi => h4 i ⟨x, hx, hi⟩, fun o ho => ⟨h5 _ ho, fun i hi => h6 i ⟨_, ho, hi⟩⟩, fun j hj => ?_, h8, h9, fun o ho => ⟨h10 _ ho, fun i hi => h11 i ⟨_, ho, hi⟩⟩, fun j hj o ho => ?_⟩
  · rcases h7 j hj with ⟨x, hx, hj'⟩ | ⟨o, ho, hj'⟩
    · exact .inl ⟨x, hx, hj'⟩
    · right
      obtain ⟨q, hq, e⟩ := List.mem_iff_getElem.1 ho
      cases o with
      | none => simp [irOo] at hj'
      | some o =>
        simp only [List.length_take] at hq
        rw [List.getElem_take] at e
        exact ⟨q, o, by omega, by rw [List.getElem?_eq_getElem (by omega), e], hj'⟩
  · have := h12 j hj
    rw [ho] at this
    simp only [Option.join_some, Option.isNone_some, Bool.false_eq_true, false_or] at this
    cases hq : objs[j]? with
    | none => rw [hq] at this; simp at this
    | some q =>
      cases q with
      | none => rw [hq] at this; simp at this
      | some q => exact ⟨q, rfl⟩

theorem St_some {objs : List (Option Obj)} {j : Nat} {o : Obj} (h : (St objs).ob j = some o) : objs[j]? = some (some o) := by
  simp only [St] at h
  cases hq : objs[j]? with
  | none => rw [hq] at h; cases h
  | some q => rw [hq] at h; simp only [Option.getD_some] at h; rw [h]

theorem great_some {σ : Store} {g : Nat → Nat} {k : Nat} {objs : List (Option Obj)} {id : Nat} {o : Obj} (h : (great σ g k objs).ob id = some o) :
    (∃ j o', id = gx g k σ.clock j ∧ objs[j]? = some (some o') ∧ o = rnO (gx g k σ.clock) o' ∧ (id < σ.clock → j < k) ∧ (σ.clock ≤ id → k ≤ j)) ∨ (id < σ.clock ∧ ixOf g k id = none ∧ σ.ob id = some o) := by
  simp only [great] at h
  by_cases hlt : id < σ.clock
  · rw [if_pos hlt] at h
    cases hx : ixOf g k id with
    | none => rw [hx] at h; exact .inr ⟨hlt, rfl, h⟩
    | some j =>
      rw [hx] at h
      obtain ⟨h1, h2⟩ := ixOf_some hx
      simp only [Option.map_eq_some_iff] at h
      obtain ⟨o', ho, rfl⟩ := h
      exact .inl ⟨j, o', by simp [gx, h1, h2], St_some (by simpa [St] using ho), rfl, fun _ => h1, fun h => by omega⟩
  · rw [if_neg hlt] at h
    simp only [Option.map_eq_some_iff] at h
    obtain ⟨o', ho, rfl⟩ := h
    exact .inl ⟨id - σ.clock + k, o', by simp only [gx]; rw [if_neg (by omega)]; omega, St_some (by simpa [St] using ho), rfl, fun h => absurd h hlt, fun _ => by omega⟩

section
variable {E : Env} (hT : TabOK E.P E.T) (hmix : E.P.follows .mixedOrders = true) {f : FuncId} {fn : Func} {body : Code} {nt : Nat} (hf : E.P.funcs[f]? = some fn) (hb : fn.body = some body) (hn : fn.ntmps = nt)
  (hname : fn.name ≠ "runtime.NumGoroutine") (hgl : ∀ g, closed (E.gl g) = true)
  {objs objs' : List (Option Obj)} {args : Cs} {r : AV} {k : Nat}
theorem ref_small (hgl : ∀ g, closed (E.gl g) = true) (hr : RefOK k args objs r objs') {base : Nat} {σ : Store} {g : Nat → Nat} (hg : ∀ i j, i < k → j < k → g i = g j → i = j)
    (hold : ∀ j o, objs[j]? = some (some o) → σ.ob (g j) = some (rnO g o)) {c : Ctx} {us : List Value} (hI : Inv σ c base) (hG : GlOK E c) (hus : Reps c (args.map (rn2 g)) us) :
    ∃ c1 : Ctx, c1.w = c.w ∧ c1.S = c.S ∧ (c1.m = fun j => if j < k then c.m (g j) else none) ∧ c1.dfr = [] ∧ Inv (St objs) c1 base ∧ GlOK E c1 ∧ Reps c1 args us ∧ (∀ j, j < k → c1.m j ≠ none) ∧
      ∀ j o, (St objs).ob j = some o → j < k ∧ objs[j]? = some (some o) ∧ σ.ob (g j) = some (rnO g o) := by
  have hkl : ∀ j o, objs[j]? = some (some o) → j < k := fun j o ho => by
    have := (List.getElem?_eq_some_iff.1 ho).1; have := hr.hk; omega
  -- the small context
  have ⟨c1, hc1w, hc1S, hc1m, hc1d⟩ : ∃ c1 : Ctx, c1.w = c.w ∧ c1.S = c.S ∧ (c1.m = fun j => if j < k then c.m (g j) else none) ∧ c1.dfr = [] := ⟨⟨c.w, c.S, fun j => if j < k then c.m (g j) else none, []⟩, rfl, rfl, rfl, rfl⟩
  have hm1 : ∀ j, j < k → c1.m j = c.m (g j) := fun j hj => by rw [hc1m]; simp [hj]
  have hm0 : ∀ j, k ≤ j → c1.m j = none := fun j hj => by rw [hc1m]; simp; omega
  have hus1 : Reps c1 args us := ⟨by simpa using hus.1, fun j x u h1 h2 => by
    refine rep_un2 (g := g) hc1w hc1S (fun i hi l hl => ?_) (hr.hsa x (List.mem_of_getElem? h1)) (hus.2 j (rn2 g x) u (by simp [h1]) h2)
    rw [hm1 i (hr.hia x (List.mem_of_getElem? h1) i hi)]; exact hl⟩
  have hob1 : ∀ j o, (St objs).ob j = some o → j < k ∧ objs[j]? = some (some o) ∧ σ.ob (g j) = some (rnO g o) := fun j o ho => by
    have h1 := St_some ho
    exact ⟨hkl j o h1, h1, hold j o h1⟩
  have hI1 : Inv (St objs) c1 base := by
    refine ⟨⟨?_, ?_, ?_, ?_, ?_, ?_⟩, ?_, ?_⟩
    · intro j o L ho hm
      obtain ⟨hj, h1, h2⟩ := hob1 j o ho
      rw [hm1 j hj] at hm
      refine obj_un (g := g) hc1w hc1S (fun i hi l hl => ?_) (hr.hso o (List.mem_of_getElem? h1)).1 (hI.core.obj _ _ L h2 hm)
      rw [hm1 i ((hr.hso o (List.mem_of_getElem? h1)).2 i hi)]; exact hl
    · intro j o ho hm
      obtain ⟨hj, h1, h2⟩ := hob1 j o ho
      rw [hm1 j hj] at hm
      have := hI.core.virt _ _ h2 hm
      simp only [rnO] at this
      split at this
      · exact this
      · exact List.map_eq_nil_iff.1 this
    · intro i j o o' L L' ho ho' hm hm' hne
      obtain ⟨hi, _, h2⟩ := hob1 i o ho
      obtain ⟨hj, _, h2'⟩ := hob1 j o' ho'
      rw [hm1 i hi] at hm; rw [hm1 j hj] at hm'
      exact hI.core.apart _ _ _ _ L L' h2 h2' hm hm' (fun e => hne (hg i j hi hj e))
    · rw [hc1S, hc1w]; exact hI.core.inn
    · intro j o L ho hm a ha hab
      obtain ⟨hj, _, h2⟩ := hob1 j o ho
      rw [hm1 j hj] at hm
      rw [hc1S] at ha
      have := hI.core.free _ _ L h2 hm a ha hab
      simp only [rnO] at this
      split at this
      · exact this
      · simpa using this
    · rw [hc1w]; exact hI.core.base_le
    · intro j l hl
      simp only [St, hr.hk]
      apply Classical.byContradiction
      intro hc; rw [hm0 j (by omega)] at hl; cases hl
    · intro j o ho; have := (hob1 j o ho).1; simp only [St, hr.hk]; exact this
  have hfull : ∀ j, j < k → c1.m j ≠ none := by
    intro j
    induction j using Nat.strongRecOn with
    | _ j ih =>
      intro hj
      rcases hr.hreach j hj with ⟨x, hx, hjx⟩ | ⟨i, o, hij, ho, hjo⟩
      · obtain ⟨q, hq, rfl⟩ := List.mem_iff_getElem.1 hx
        exact reach2 (hus1.2 q _ _ (List.getElem?_eq_getElem hq) (List.getElem?_eq_getElem (by rw [← hus1.1]; exact hq))) hjx
      · have hik : i < k := by omega
        have hob : (St objs).ob i = some o := by simp [St, ho]
        cases hm : c1.m i with
        | none => exact absurd hm (ih i hij hik)
        | some L =>
          cases L with
          | virt =>
            have := hI1.core.virt i o hob hm
            simp only [irO, this, List.flatMap_nil, ite_self, List.not_mem_nil] at hjo
          | «at» L =>
            obtain ⟨arr, T, _, _, h3⟩ := (hI1.core.obj i o L hob hm).mem
            simp only [irO] at hjo
            split at hjo
            · cases hjo
            · obtain ⟨e, he, hje⟩ := List.mem_flatMap.1 hjo
              obtain ⟨x, hx, hjx⟩ := List.mem_flatMap.1 hje
              obtain ⟨p, hp, rfl⟩ := List.mem_iff_getElem.1 he
              obtain ⟨q, hq, rfl⟩ := List.mem_iff_getElem.1 hx
              obtain ⟨u, _, h5, _⟩ := h3 p _ q _ (List.getElem?_eq_getElem hp) (List.getElem?_eq_getElem hq)
              exact reach1 h5 hjx
  have hG1 : GlOK E c1 := fun x => Rep.moveC (c := c) (c' := c1) hc1w hc1S (hG x) (hgl x)
  exact ⟨c1, hc1w, hc1S, hc1m, hc1d, hI1, hG1, hus1, hfull, hob1⟩

include hT hmix hf hb hn hname hgl

theorem ref_of_wp (hr : RefOK k args objs r objs')
    (h : ∀ (base : Nat) (c00 : Ctx), Under E base c00 (St objs) → Wp E base c00 (St objs) body ⟨args ++ List.replicate (nt - args.length) (.v undef), St objs, some 0, k⟩ (fun ex s => (ex = .ret ∨ ex = .nrm) ∧ RtR E base c00 (St objs) fn r objs' s))
    (base : Nat) (σ : Store) (g : Nat → Nat) (hg : ∀ i j, i < k → j < k → g i = g j → i = j) (hgc : ∀ j, j < k → g j < σ.clock) {l : Nat} (hl : ∀ j, j < k → l ≤ g j)
    (hold : ∀ j o, objs[j]? = some (some o) → σ.ob (g j) = some (rnO g o)) (hnp : ∀ V, ¬ E.pan V := by exact fun _ h => h) :
    CallOK E base f (args.map (rn2 g)) σ (rn3 (gx g k σ.clock) r) (great σ g k objs') (some l) := by
  subst hn
  have hkl : ∀ j o, objs[j]? = some (some o) → j < k := fun j o ho => by
    have := (List.getElem?_eq_some_iff.1 ho).1; have := hr.hk; omega
  have hclk : (great σ g k objs').clock = σ.clock + (objs'.length - k) := rfl
  have himp : importAV (great σ g k objs') (rn3 (gx g k σ.clock) r) = (rn3 (gx g k σ.clock) r, great σ g k objs') := importAV_sh _ (sh3_rn _ hr.hsr)
  have hgxinj : ∀ i j, gx g k σ.clock i = gx g k σ.clock j → i = j := fun i j e => by
    simp only [gx] at e
    by_cases hi : i < k
    · by_cases hj : j < k
      · rw [if_pos hi, if_pos hj] at e; exact hg i j hi hj e
      · rw [if_pos hi, if_neg hj] at e; have := hgc i hi; omega
    · by_cases hj : j < k
      · rw [if_neg hi, if_pos hj] at e; have := hgc j hj; omega
      · rw [if_neg hi, if_neg hj] at e; omega
  refine ⟨by
    rw [himp]
    refine ⟨by rw [hclk]; omega, fun id o ho => ?_⟩
    rcases great_some ho with ⟨j, o', rfl, h1, rfl, h2, h3⟩ | ⟨h1, h2, h3⟩
    · by_cases hj : j < k
      · obtain ⟨q, hq⟩ := hr.hlive j hj o' h1
        left; exact ⟨_, by simp only [gx, if_pos hj]; exact hold j q hq⟩
      · right
        have hlt := (List.getElem?_eq_some_iff.1 h1).1
        rw [hclk]; simp only [gx, if_neg hj]; omega
    · exact .inl ⟨o, h3⟩, (fun h => by cases h), ⟨fn, hf, by simp [hb], hname⟩, fun c us hI hG hus => ?_⟩
  rw [himp]
  -- the small context
  obtain ⟨c1, hc1w, hc1S, hc1m, hc1d, hI1, hG1, hus1, hfull, hob1⟩ := ref_small hgl hr hg hold hI hG hus
  have hm1 : ∀ j, j < k → c1.m j = c.m (g j) := fun j hj => by rw [hc1m]; simp [hj]
  have hm0 : ∀ j, k ≤ j → c1.m j = none := fun j hj => by rw [hc1m]; simp; omega
  have hU : Under E base c1 (St objs) := ⟨hT, hmix, hI1, hG1, fun id hid => hfull id (by simpa [St, hr.hk] using hid), hnp⟩
  have hst0 := start_SR hI1 hc1d hus1 fn.ntmps
  have hst : SR base c1 (St objs) ⟨args ++ List.replicate (fn.ntmps - args.length) (.v undef), St objs, some 0, k⟩ c1 { tmps := us.toArray ++ Array.replicate (fn.ntmps - us.toArray.size) undef, defers := [] } :=
    ⟨hst0.inv, hst0.ext, Fr.refl _ _ _, hst0.go, by simp [St, hr.hk], hst0.tm, hst0.sz, hst0.dfr, hst0.foot⟩
  refine ⟨fun id hid hm => ?_, (calls_of_wp hf hb ?_).mono fun e w' h => .inl h⟩
  · simp only [great, if_pos hid]
    cases hx : ixOf g k id with
    | none => rfl
    | some j =>
      obtain ⟨h1, rfl⟩ := ixOf_some hx
      exact absurd (by rw [hm1 j h1]; exact hm) (hfull j h1)
  have hrun := h base c1 hU c1 _ hst (bodyPost E.P fn fun e w' => ∃ v c', e = .returned v ∧ c'.w = w' ∧ Ext c c' ∧ Inv (great σ g k objs') c' base ∧ Rep c' (rn3 (gx g k σ.clock) r) v ∧ Fr c σ (some l) c') (fun ex s1 a' c' hr' hs => ?_)
  · rw [hc1w] at hrun; exact hrun
  obtain ⟨hex, s2, hk2, hs2σ, xs, hxs, rfl⟩ := hr'
  have hs : SR base c1 (St objs) s1 c' a' := by rcases hex with rfl | rfl <;> exact hs
  obtain ⟨c2, hw2, hS2⟩ := hk2 _ _ hs
  obtain ⟨vs, h1, h2, h3⟩ := resAV_ok hT hS2.inv hS2.tm hxs
  have hres := run_results (P := E.P) (fn := fn) (tmps := a'.tmps) (w := c2.w) h3 (by simpa using h2)
  have hrep := rep_one h1
  have hI2 := hS2.inv
  rw [hs2σ] at hI2
  have he12 : Ext c1 c2 := hS2.ext
  have hfr : Fr c1 (St objs) s2.low c2 := hS2.fr
  -- the great context
  have ⟨c3, hc3w, hc3S, hc3m⟩ : ∃ c3 : Ctx, c3.w = c2.w ∧ c3.S = c2.S ∧ c3.m = fun id => if id < σ.clock then c.m id else c2.m (id - σ.clock + k) := ⟨⟨c2.w, c2.S, fun id => if id < σ.clock then c.m id else c2.m (id - σ.clock + k), []⟩, rfl, rfl, rfl⟩
  have hm3 : ∀ id, id < σ.clock → c3.m id = c.m id := fun id hid => by rw [hc3m]; simp [hid]
  have hm3' : ∀ id, σ.clock ≤ id → c3.m id = c2.m (id - σ.clock + k) := fun id hid => by rw [hc3m]; simp; omega
  have hm2 : ∀ j, j < k → c2.m j = c.m (g j) := fun j hj => by
    cases hq : c1.m j with
    | none => exact absurd hq (hfull j hj)
    | some L => rw [he12.m j L hq, ← hm1 j hj, hq]
  have hmg : ∀ j, c3.m (gx g k σ.clock j) = c2.m j := fun j => by
    simp only [gx]
    by_cases hj : j < k
    · rw [if_pos hj, hm3 _ (hgc j hj), hm2 j hj]
    · rw [if_neg hj, hm3' _ (by omega)]; congr 1; omega
  have e3 : Ext c c3 := ⟨fun a ha => by rw [hc3S]; exact he12.S a (by rw [hc1S]; exact ha), fun a ha => by rw [hc3w, he12.cell a (by rw [hc1S]; exact ha), hc1w], fun id L hL => by
    rw [hm3 id (hI.dom id L hL)]; exact hL, by rw [hc3w, ← hc1w]; exact he12.size, by rw [hc3w, he12.os, hc1w], by rw [hc3w, he12.tape, hc1w], by rw [hc3w, he12.output, hc1w], fun b t hb => by rw [hc3w]; exact he12.ty b t (by rw [hc1w]; exact hb)⟩
  -- blocks of what was not handed over
  have hapart : ∀ id o L, σ.ob id = some o → c.m id = some (.at L) → ixOf g k id = none → ∀ j o' L', objs[j]? = some (some o') → c1.m j = some (.at L') → L'.b ≠ L.b := fun id o L ho hm hx j o' L' hj hm' => by
    have hjk := hkl j o' hj
    rw [hm1 j hjk] at hm'
    exact hI.core.apart _ _ _ _ L' L (hold j o' hj) ho hm' hm (fun e => ixOf_none hx hjk e)
  have hblk : ∀ id o L, σ.ob id = some o → c.m id = some (.at L) → ixOf g k id = none → c3.w.heap[L.b]? = c.w.heap[L.b]? := fun id o L ho hm hx => by
    rw [hc3w, ← hc1w]
    exact hfr.block L.b (by rw [hc1w]; exact hI.core.b_lt ho hm) (fun j o' L' hj hm' _ _ _ => hapart id o L ho hm hx j o' L' (St_some hj) hm')
  have hnew : ∀ id o L, σ.ob id = some o → c.m id = some (.at L) → ixOf g k id = none → ∀ j L', c2.m j = some (.at L') → L.b ≠ L'.b ∨ (∃ q, c1.m j = some q) := fun id o L ho hm hx j L' hj => by
    by_cases hq : c1.m j = none
    · left
      rcases hfr.bnew j L' hj (by rw [hq]; simp) with h | ⟨j', o', L'', ho', hm', e, _⟩
      · have := hI.core.b_lt ho hm; rw [hc1w] at h; omega
      · rw [e]; exact fun e' => hapart id o L ho hm hx j' o' L'' (St_some ho') hm' e'.symm
    · right; cases hq' : c1.m j with
      | none => exact absurd hq' hq
      | some q => exact ⟨q, rfl⟩
  have hI3 : Inv (great σ g k objs') c3 base := by
    refine ⟨⟨?_, ?_, ?_, ?_, ?_, ?_⟩, ?_, ?_⟩
    · intro id o L ho hm
      rcases great_some ho with ⟨j, o', rfl, h1, rfl, _, _⟩ | ⟨h1, h2, h3⟩
      · rw [hmg] at hm
        exact obj_rn (g := gx g k σ.clock) hc3w hc3S (fun i hi q hq => by rw [hmg]; exact hq) (hr.hso' o' (List.mem_of_getElem? h1)).1 (hI2.core.obj j o' L (by simp [St, h1]) hm)
      · rw [hm3 id h1] at hm
        exact (hI.core.obj id o L h3 hm).mono e3 (hblk id o L h3 hm h2)
    · intro id o ho hm
      rcases great_some ho with ⟨j, o', rfl, h1, rfl, _, _⟩ | ⟨h1, h2, h3⟩
      · rw [hmg] at hm
        have := hI2.core.virt j o' (by simp [St, h1]) hm
        simp [rnO, this]
      · rw [hm3 id h1] at hm; exact hI.core.virt id o h3 hm
    · intro id id' o o' L L' ho ho' hm hm' hne
      have key : ∀ id o L j p L', id < σ.clock → ixOf g k id = none → σ.ob id = some o → c3.m id = some (.at L) → objs'[j]? = some (some p) → c3.m (gx g k σ.clock j) = some (.at L') → L.b ≠ L'.b := by
        intro id o L j p L' h1 h2 h3 hm hj hm'
        rw [hm3 id h1] at hm
        rw [hmg] at hm'
        rcases hnew id o L h3 hm h2 j L' hm' with h | ⟨q, hq⟩
        · exact h
        · have hjk : j < k := by
            apply Classical.byContradiction; intro hc; rw [hm0 j (by omega)] at hq; cases hq
          obtain ⟨q', hq'⟩ := hr.hlive j hjk p hj
          have := hm2 j hjk
          rw [hm'] at this
          exact fun e => hapart id o L h3 hm h2 j q' L' hq' (by rw [hm1 j hjk]; exact this.symm) e.symm
      rcases great_some ho with ⟨j, p, rfl, h1, rfl, _, _⟩ | ⟨h1, h2, h3⟩
      · rcases great_some ho' with ⟨j', p', rfl, h1', rfl, _, _⟩ | ⟨h1', h2', h3'⟩
        · rw [hmg] at hm hm'
          exact hI2.core.apart j j' p p' L L' (by simp [St, h1]) (by simp [St, h1']) hm hm' (fun e => hne (by rw [e]))
        · exact fun e => key id' o' L' j p L h1' h2' h3' hm' h1 hm e.symm
      · rcases great_some ho' with ⟨j', p', rfl, h1', rfl, _, _⟩ | ⟨h1', h2', h3'⟩
        · exact key id o L j' p' L' h1 h2 h3 hm h1' hm'
        · rw [hm3 id h1] at hm; rw [hm3 id' h1'] at hm'
          exact hI.core.apart id id' o o' L L' h3 h3' hm hm' hne
    · rw [hc3S, hc3w]; exact hI2.core.inn
    · intro id o L ho hm a ha hab
      rw [hc3S] at ha
      rcases great_some ho with ⟨j, o', rfl, h1, rfl, _, _⟩ | ⟨h1, h2, h3⟩
      · rw [hmg] at hm
        have := hI2.core.free j o' L (by simp [St, h1]) hm a ha hab
        simp only [rnO]
        split
        · exact this
        · simpa using this
      · rw [hm3 id h1] at hm
        rcases hfr.snew a ha with h | h | ⟨j', o', L'', ho', hm', e, _⟩
        · rw [hc1S] at h; exact hI.core.free id o L h3 hm a h hab
        · have := hI.core.b_lt h3 hm; rw [hc1w] at h; omega
        · exact absurd (e.symm.trans hab) (hapart id o L h3 hm h2 j' o' L'' (St_some ho') hm')
    · exact Nat.le_trans hI.core.base_le (by rw [hc3w, ← hc1w]; exact he12.size)
    · intro id q hq
      rw [hclk]
      by_cases hid : id < σ.clock
      · omega
      · rw [hm3' id (by omega)] at hq
        have := hI2.dom _ _ hq
        simp only [St] at this
        omega
    · intro id o ho
      rw [hclk]
      rcases great_some ho with ⟨j, o', rfl, h1, rfl, _, _⟩ | ⟨h1, h2, h3⟩
      · have := (List.getElem?_eq_some_iff.1 h1).1
        simp only [gx]
        split
        · rename_i hj; have := hgc j hj; omega
        · omega
      · omega
  have hfr3 : Fr c σ (some l) c3 := by
    have hj : ∀ j o L', (St objs).ob j = some o → c1.m j = some (.at L') → ∃ id' o', σ.ob id' = some o' ∧ c.m id' = some (.at L') ∧ l ≤ id' := fun j o L' ho hm => by
      obtain ⟨hjk, _, h2⟩ := hob1 j o ho
      exact ⟨g j, _, h2, by rw [← hm1 j hjk]; exact hm, hl j hjk⟩
    refine ⟨fun b hb hne => ?_, fun id q hq => ?_, fun id L hm hn => ?_, fun a ha => ?_⟩
    · rw [hc3w, ← hc1w]
      refine hfr.block b (by rw [hc1w]; exact hb) (fun j o L' ho hm q _ _ => ?_)
      obtain ⟨id', o', h1, h2, h3⟩ := hj j o L' ho hm
      exact hne id' o' L' h1 h2 l rfl h3
    · by_cases hid : id < σ.clock
      · rw [hm3 id hid] at hq; exact .inl hq
      · exact .inr (by omega)
    · by_cases hid : id < σ.clock
      · rw [hm3 id hid] at hm; exact absurd hm hn
      · rw [hm3' id (by omega)] at hm
        rcases hfr.bnew _ L hm (by rw [hm0 _ (by omega)]; simp) with h | ⟨j', o', L'', ho', hm', e, _⟩
        · left; rw [hc1w] at h; exact h
        · right
          obtain ⟨id', p, h1, h2, h3⟩ := hj j' o' L'' ho' hm'
          exact ⟨id', p, L'', h1, h2, e, l, rfl, h3⟩
    · rw [hc3S] at ha
      rcases hfr.snew a ha with h | h | ⟨j', o', L'', ho', hm', e, _⟩
      · rw [hc1S] at h; exact .inl h
      · right; left; rw [hc1w] at h; exact h
      · right; right
        obtain ⟨id', p, h1, h2, h3⟩ := hj j' o' L'' ho' hm'
        exact ⟨id', p, L'', h1, h2, e, l, rfl, h3⟩
  have hrep3 : Rep c3 (rn3 (gx g k σ.clock) (one xs)) (oneV vs) := rep_rn3 hc3w hc3S (fun i hi q hq => by rw [hmg]; exact hq) hr.hsr hrep
  have hpost : a'.defers = [] ∧ ∃ v, (results fn a'.tmps).run E.P c'.w = .ok v c'.w ∧ ∃ v' c'', Ending.returned v = .returned v' ∧ c''.w = c'.w ∧ Ext c c'' ∧ Inv (great σ g k objs') c'' base ∧ Rep c'' (rn3 (gx g k σ.clock) (one xs)) v' ∧ Fr c σ (some l) c'' :=
    ⟨hS2.dfr.trans hc1d, oneV vs, by rw [← hw2]; exact hres, oneV vs, c3, rfl, by rw [hc3w, hw2], e3, hI3, hrep3, hfr3⟩
  rcases hex with rfl | rfl
  · exact hpost
  · exact hpost
end
end Go.Bx

/- Words for calls that are handed objects: weakening beside elder objects, rows numbered anew, one call's table. (Own text.) -/
namespace Go.Bx
set_option linter.unusedVariables false
set_option linter.unusedSimpArgs false
set_option linter.unusedSectionVars false
set_option linter.unusedVariables false
set_option linter.unusedSimpArgs false
set_option linter.unusedSectionVars false

theorem omin_z (x : Option Nat) : omin (some 0) x = some 0 := by
  cases x with
  | none => rfl
  | some a => simp only [omin]; congr 1; split <;> omega

inductive WSr (σ : Store) (ρ : Nat → Option Nat) (vt : Nat → Bool) : List (Option Nat) → List (Option Obj) → Prop
  | nil : WSr σ ρ vt [] []
  | virt {sz : Nat} {sh fl : Bool} {L : List (Option Nat)} {l : List (Option Obj)} (t : WSr σ ρ vt L l) : WSr σ ρ vt (none :: L) (some ⟨sz, sh, fl, []⟩ :: l)
  | obj {i : Nat} {o o' : Obj} {L : List (Option Nat)} {l : List (Option Obj)} (h : σ.ob i = some o) (w : WO σ ρ vt o o') (t : WSr σ ρ vt L l) : WSr σ ρ vt (some i :: L) (some o' :: l)
  | dead {x : Option Nat} {L : List (Option Nat)} {l : List (Option Obj)} (t : WSr σ ρ vt L l) : WSr σ ρ vt (x :: L) (none :: l)

theorem WSr.get {σ : Store} {ρ : Nat → Option Nat} {vt : Nat → Bool} {L : List (Option Nat)} {l : List (Option Obj)} (h : WSr σ ρ vt L l) : L.length = l.length ∧ ∀ (a : Nat) o', l[a]? = some (some o') → (L[a]? = some none → o'.es = []) ∧ ∀ i, L[a]? = some (some i) → ∃ o, σ.ob i = some o ∧ WO σ ρ vt o o' := by
  induction h with
  | nil => exact ⟨rfl, fun a o' h => by simp at h⟩
  | virt t ih =>
    refine ⟨by simp [ih.1], fun a o' h => ?_⟩
    cases a with
    | zero => simp at h; subst h; exact ⟨fun _ => rfl, fun i h => by simp at h⟩
    | succ a => simpa using ih.2 a o' (by simpa using h)
  | obj h w t ih =>
    refine ⟨by simp [ih.1], fun a o' h' => ?_⟩
    cases a with
    | zero => simp at h'; subst h'; exact ⟨fun h => by simp at h, fun i hi => by simp at hi; subst hi; exact ⟨_, h, w⟩⟩
    | succ a => simpa using ih.2 a o' (by simpa using h')
  | dead t ih =>
    refine ⟨by simp [ih.1], fun a o' h' => ?_⟩
    cases a with
    | zero => simp at h'
    | succ a => simpa using ih.2 a o' (by simpa using h')

theorem nodup_idx : ∀ (L : List (Option Nat)), (L.filterMap id).Nodup → ∀ (a b i : Nat), L[a]? = some (some i) → L[b]? = some (some i) → a = b := by
  intro L
  induction L with
  | nil => intro _ a b i h; simp at h
  | cons x L ih =>
    intro hd a b i h k
    have hd' : (L.filterMap id).Nodup := by
      cases x with
      | none => simpa using hd
      | some x => simp at hd; exact hd.2
    cases a with
    | zero =>
      cases b with
      | zero => rfl
      | succ b =>
        simp at h k; subst h
        simp at hd
        exact absurd (List.mem_of_getElem? k) (by simpa using hd.1)
    | succ a =>
      cases b with
      | zero =>
        simp at h k; subst k
        simp at hd
        exact absurd (List.mem_of_getElem? h) (by simpa using hd.1)
      | succ b => simp at h k; rw [ih hd' a b i h k]

/-- To a state with a store as a list, the first objects in their places. -/
theorem Wk.weakR {E : Env} {base : Nat} {c00 : Ctx} {O : List (Option Obj)} {s : FS} (hU : Under E base c00 (St O)) {tm' : Cs} (L : List (Option Nat)) (l : List (Option Obj)) (hd : (L.filterMap id).Nodup)
    (hk : ∀ a, a < O.length → L[a]? = some (some a)) (hs : WSr s.σ (rhoOf L) (vtOf L) L l) (htm : WVs s.σ (rhoOf L) (vtOf L) s.tm tm') : Wk base c00 (St O) s ⟨tm', St l, s.low, s.c0⟩ := fun cx a hS => by
  obtain ⟨hlen, hget⟩ := hs.get
  have hv : ∀ a i, rhoOf L a = some i → vtOf L a = false := fun a i h => by
    unfold rhoOf at h; unfold vtOf
    cases hL : L[a]? with
    | none => rfl
    | some x => cases x with
      | none => rw [hL] at h; simp at h
      | some x => rfl
  have hrho : ∀ {a i}, rhoOf L a = some i → L[a]? = some (some i) := fun {a i} h => by
    unfold rhoOf at h
    cases hL : L[a]? with
    | none => rw [hL] at h; simp at h
    | some x => rw [hL] at h; simp at h; rw [h]
  have hinj := nodup_idx L hd
  have hkl : O.length ≤ l.length := by
    cases h0 : O.length with
    | zero => omega
    | succ n => have := (List.getElem?_eq_some_iff.1 (hk n (by omega))).1; omega
  refine ⟨cx.ren (rhoOf L) (vtOf L), rfl, hS.weak hU.inv hU.full hv (σ' := St l) ⟨hkl, fun a h => ?_, fun a i h hc => ?_, fun a i h _ => ?_, fun a b i h k => hinj a b i (hrho h) (hrho k), fun a h => ⟨?_, ?_⟩, fun a o' h => ?_, fun a o' h => ?_⟩ htm⟩
  · simp only [rhoOf, hk a h, Option.getD_some]
  · apply Classical.byContradiction
    intro hlt
    have : i < O.length := by simpa [St] using hlt
    have := hinj a i i (hrho h) (hk i this)
    simp only [St] at hc; omega
  · have := (List.getElem?_eq_some_iff.1 (hrho h)).1; rw [St_clock]; omega
  · unfold vtOf at h
    split at h
    · rename_i h1; have := (List.getElem?_eq_some_iff.1 h1).1; rw [St_clock]; omega
    · cases h
  · apply Classical.byContradiction
    intro hlt
    have h1 := hk a (by simpa [St] using hlt)
    simp [vtOf, h1] at h
  · rw [St_ob] at h
    by_cases ha : a < l.length
    · rw [St_clock]; exact ha
    · rw [List.getElem?_eq_none (by omega)] at h; simp at h
  · rw [St_ob] at h
    have hla : l[a]? = some (some o') := by
      cases hl : l[a]? with
      | none => rw [hl] at h; simp at h
      | some x => rw [hl] at h; simp at h; rw [h]
    obtain ⟨h1, h2⟩ := hget a o' hla
    refine ⟨fun hvt => h1 ?_, fun i hi => h2 i (hrho hi)⟩
    unfold vtOf at hvt
    split at hvt
    · assumption
    · cases hvt

/-- A number for another. -/
def mv (i n : Nat) : Nat → Nat := fun a => if a = i then n else a

/-- A row takes a new number. -/
theorem Wk.move {E : Env} {base : Nat} {c00 : Ctx} {O : List (Option Obj)} (hU : Under E base c00 (St O)) {tm : Cs} {l : List (Option Obj)} {c0 : Nat} (i : Nat) (o : Obj) (hi : l[i]? = some (some o))
    (htm : tm.all sh3 = true) (hl : l.all shOo = true) :
    Wk base c00 (St O) ⟨tm, St l, some 0, c0⟩ ⟨tm.map (rn3 (mv i l.length)), St (((l.map (Option.map (rnO (mv i l.length)))).set i none) ++ [some (rnO (mv i l.length) o)]), some 0, c0⟩ := fun cx a hS => by
  have hI := hS.inv
  simp only at hI
  have hin : i < l.length := (List.getElem?_eq_some_iff.1 hi).1
  have hdom : ∀ j q, cx.m j = some q → j < l.length := fun j q hq => by have := hI.dom j q hq; simpa [St] using this
  have ⟨c', hw, hS', hm⟩ : ∃ c' : Ctx, c'.w = cx.w ∧ c'.S = cx.S ∧ c'.m = fun a => if a = l.length then cx.m i else cx.m a := ⟨⟨cx.w, cx.S, fun a => if a = l.length then cx.m i else cx.m a, []⟩, rfl, rfl, rfl⟩
  have hmn : c'.m l.length = cx.m i := by rw [hm]; simp
  have hmo : ∀ j, j ≠ l.length → c'.m j = cx.m j := fun j hj => by rw [hm]; simp [hj]
  have hmg : ∀ j q, cx.m j = some q → c'.m (mv i l.length j) = some q := fun j q hq => by
    simp only [mv]
    by_cases hj : j = i
    · subst hj; rw [if_pos rfl, hmn]; exact hq
    · rw [if_neg hj, hmo j (by have := hdom j q hq; omega)]; exact hq
  have hob : ∀ j p, (St (((l.map (Option.map (rnO (mv i l.length)))).set i none) ++ [some (rnO (mv i l.length) o)])).ob j = some p →
      ∃ j0 p0, l[j0]? = some (some p0) ∧ p = rnO (mv i l.length) p0 ∧ c'.m j = cx.m j0 ∧ ((j = l.length ∧ j0 = i) ∨ (j = j0 ∧ j ≠ i ∧ j < l.length)) := fun j p hp => by
    have hp' := St_some hp
    by_cases hj : j < l.length
    · rw [List.getElem?_append_left (by simpa using hj)] at hp'
      by_cases hji : j = i
      · subst hji; rw [List.getElem?_set_self (by simpa using hj)] at hp'; simp at hp'
      · rw [List.getElem?_set_ne (by omega), List.getElem?_map, Option.map_eq_some_iff] at hp'
        obtain ⟨q, hq, e⟩ := hp'
        obtain ⟨p0, rfl, rfl⟩ := Option.map_eq_some_iff.1 e
        exact ⟨j, p0, hq, rfl, hmo j (by omega), .inr ⟨rfl, hji, hj⟩⟩
    · have hlen : j = l.length := by
        have := (List.getElem?_eq_some_iff.1 hp').1; simp at this; omega
      subst hlen
      rw [List.getElem?_append_right (by simp)] at hp'
      simp at hp'
      exact ⟨i, o, hi, hp'.symm, hmn, .inl ⟨rfl, rfl⟩⟩
  have hobl : ∀ j p, l[j]? = some (some p) → (St l).ob j = some p := fun j p h => by simp [St, h]
  have hsh : ∀ (j : Nat) p, l[j]? = some (some p) → shO p = true := fun j p h => by
    have := List.all_eq_true.1 hl _ (List.mem_of_getElem? h); exact this
  refine ⟨c', hw, ⟨⟨?_, ?_, ?_, ?_, ?_, ?_⟩, ?_, ?_⟩, ?_, ?_, ?_, hS.c0, ?_, by simpa using hS.sz, hS.dfr, fun id hid hm0 => absurd hm0 (hU.full id hid)⟩
  · intro j p L hp hmj
    obtain ⟨j0, p0, h1, rfl, h2, _⟩ := hob j p hp
    rw [h2] at hmj
    exact obj_rn hw hS' (fun q _ z hz => hmg q z hz) (hsh j0 p0 h1) (hI.core.obj j0 p0 L (hobl j0 p0 h1) hmj)
  · intro j p hp hmj
    obtain ⟨j0, p0, h1, rfl, h2, _⟩ := hob j p hp
    rw [h2] at hmj
    have := hI.core.virt j0 p0 (hobl j0 p0 h1) hmj
    simp [rnO, this]
  · intro j j' p p' L L' hp hp' hmj hmj' hne
    obtain ⟨j0, p0, h1, rfl, h2, h3⟩ := hob j p hp
    obtain ⟨j0', p0', h1', rfl, h2', h3'⟩ := hob j' p' hp'
    rw [h2] at hmj; rw [h2'] at hmj'
    exact hI.core.apart j0 j0' p0 p0' L L' (hobl _ _ h1) (hobl _ _ h1') hmj hmj' (by omega)
  · rw [hS', hw]; exact hI.core.inn
  · intro j p L hp hmj x hx hb
    obtain ⟨j0, p0, h1, rfl, h2, _⟩ := hob j p hp
    rw [h2] at hmj
    rw [hS'] at hx
    have := hI.core.free j0 p0 L (hobl j0 p0 h1) hmj x hx hb
    simp only [rnO]
    split
    · exact this
    · simpa using this
  · rw [hw]; exact hI.core.base_le
  · intro j q hq
    simp only [St, List.length_append, List.length_set, List.length_map, List.length_cons, List.length_nil]
    by_cases hj : j = l.length
    · omega
    · rw [hmo j hj] at hq; have := hdom j q hq; omega
  · intro j p hp
    obtain ⟨j0, p0, _, _, _, h3⟩ := hob j p hp
    simp only [St, List.length_append, List.length_set, List.length_map, List.length_cons, List.length_nil]
    omega
  · refine ⟨fun x hx => by rw [hS']; exact hS.ext.S x hx, fun x hx => by rw [hw]; exact hS.ext.cell x hx, fun id q hq => ?_, by rw [hw]; exact hS.ext.size, by rw [hw]; exact hS.ext.os, by rw [hw]; exact hS.ext.tape, by rw [hw]; exact hS.ext.output, fun b t hb => by rw [hw]; exact hS.ext.ty b t hb⟩
    have h1 := hS.ext.m id q hq
    rw [hmo id (by have := hdom id q h1; omega)]; exact h1
  · have hgo := hS.go.clock
    refine ⟨fun b hb hne => by rw [hw]; exact hS.fr.block b hb hne, fun id q hq => ?_, fun id L hmi hn => ?_, fun x hx => by rw [hS'] at hx; exact hS.fr.snew x hx⟩
    · by_cases hid : id = l.length
      · right; subst hid; simpa [St] using hgo
      · rw [hmo id hid] at hq; exact hS.fr.mnew id q hq
    · by_cases hid : id = l.length
      · subst hid
        rw [hmn] at hmi
        by_cases hik : i < O.length
        · right
          have hex : ∃ q, (St O).ob i = some q := by
            rcases hS.go.live i o (hobl i o hi) with h | ⟨h, _⟩
            · exact h
            · simp only [St] at h; omega
          obtain ⟨q, hq⟩ := hex
          have hcm : c00.m i = some (.at L) := by
            cases h0 : c00.m i with
            | none => exact absurd h0 (hU.full i (by simpa [St] using hik))
            | some z => have := hS.ext.m i z h0; rw [this] at hmi; rw [← hmi]
          exact ⟨i, q, L, hq, hcm, rfl, 0, rfl, Nat.zero_le _⟩
        · refine hS.fr.bnew i L hmi (fun h => ?_)
          have := hU.inv.dom i _ h
          simp only [St] at this; omega
      · rw [hmo id hid] at hmi; exact hS.fr.bnew id L hmi hn
  · refine ⟨by have := hS.go.clock; simp only [St, List.length_append, List.length_set, List.length_map, List.length_cons, List.length_nil] at this ⊢; omega, fun id p hp => ?_⟩
    obtain ⟨j0, p0, h1, _, _, h3⟩ := hob id p hp
    have hgo := hS.go.clock
    simp only [St] at hgo
    rcases h3 with ⟨rfl, _⟩ | ⟨rfl, _, hlt⟩
    · right; simp [St]; omega
    · rcases hS.go.live id p0 (hobl id p0 h1) with h | ⟨h, h'⟩
      · exact .inl h
      · right; simp only [St] at h h' ⊢; simp; omega
  · intro t
    have h0 := hS.tm t
    simp only at h0 ⊢
    rw [List.getD_eq_getElem?_getD] at h0 ⊢
    rw [List.getElem?_map]
    cases ht : tm[t]? with
    | none => exact .junk
    | some x =>
      rw [ht] at h0
      exact rep_rn3 hw hS' (fun q _ z hz => hmg q z hz) (List.all_eq_true.1 htm x (List.mem_of_getElem? ht)) h0

theorem RtR.of {E : Env} {base : Nat} {c00 : Ctx} {σ00 : Store} {fn : Func} {xs : Cs} {r : AV} {objs : List (Option Obj)} {tm : Cs} {low : Option Nat} {c0 : Nat} (h : mapO (resAV E.T tm (St objs)) fn.results.toList = some xs) (hr : r = one xs) : RtR E base c00 σ00 fn r objs ⟨tm, St objs, low, c0⟩ :=
  ⟨_, Wk.refl, rfl, xs, h, hr⟩
theorem RtR.wk {E : Env} {base : Nat} {c00 : Ctx} {σ00 : Store} {fn : Func} {r : AV} {objs : List (Option Obj)} {s s2 : FS} (h : Wk base c00 σ00 s s2) (k : RtR E base c00 σ00 fn r objs s2) : RtR E base c00 σ00 fn r objs s := by
  obtain ⟨s3, h1, h2⟩ := k
  exact ⟨s3, h.trans h1, h2⟩

/-! ### the contract -/
def RefC (E : Env) (f : FuncId) (k : Nat) (args : Cs) (objs : List (Option Obj)) (r : AV) (objs' : List (Option Obj)) : Prop :=
  ∀ (base : Nat) (σ : Store) (g : Nat → Nat), (∀ i j, i < k → j < k → g i = g j → i = j) → (∀ j, j < k → g j < σ.clock) → ∀ l, (∀ j, j < k → l ≤ g j) → (∀ j o, objs[j]? = some (some o) → σ.ob (g j) = some (rnO g o)) →
    CallOK E base f (args.map (rn2 g)) σ (rn3 (gx g k σ.clock) r) (great σ g k objs') (some l)

def ixg (ι : List Nat) : Nat → Nat := fun j => ι.getD j 0
def setAll {α : Type} : List α → List Nat → List α → List α
  | L, i :: ι, o :: os => setAll (L.set i o) ι os
  | L, _, _ => L
def greatL (L : List (Option Obj)) (ι : List Nat) (k : Nat) (objs : List (Option Obj)) : List (Option Obj) :=
  setAll L ι (objs.map (Option.map (rnO (gx (ixg ι) k L.length)))) ++ (objs.drop k).map (Option.map (rnO (gx (ixg ι) k L.length)))
def Holds (L : List (Option Obj)) (g : Nat → Nat) : Nat → List (Option Obj) → Prop
  | _, [] => True
  | j, none :: os => Holds L g (j + 1) os
  | j, some o :: os => L[g j]? = some (some (rnO g o)) ∧ Holds L g (j + 1) os

theorem Holds.get {L : List (Option Obj)} {g : Nat → Nat} : ∀ {os : List (Option Obj)} {n : Nat}, Holds L g n os → ∀ j o, os[j]? = some (some o) → L[g (n + j)]? = some (some (rnO g o))
  | [], n, _, j, o, h => by simp at h
  | none :: os, n, hh, j, o, h => by
    cases j with
    | zero => simp at h
    | succ j => have := Holds.get (n := n + 1) hh j o (by simpa using h); rwa [show n + (j + 1) = n + 1 + j by omega]
  | some p :: os, n, hh, j, o, h => by
    cases j with
    | zero => simp at h; subst h; exact hh.1
    | succ j => have := Holds.get (n := n + 1) hh.2 j o (by simpa using h); rwa [show n + (j + 1) = n + 1 + j by omega]

theorem setAll_len {α : Type} : ∀ (ι : List Nat) (L os : List α), (setAll L ι os).length = L.length
  | [], L, os => by cases os <;> rfl
  | i :: ι, L, [] => rfl
  | i :: ι, L, o :: os => by simp only [setAll]; rw [setAll_len ι]; simp
theorem setAll_get {α : Type} : ∀ (ι : List Nat) (L os : List α) (id : Nat), ι.Nodup → ι.length ≤ os.length → id < L.length →
    (setAll L ι os)[id]? = match ι.findIdx? (· == id) with
      | some j => os[j]?
      | none => L[id]?
  | [], L, os, id, _, _, _ => by cases os <;> rfl
  | i :: ι, L, [], id, _, h, _ => by simp at h
  | i :: ι, L, o :: os, id, hn, h, hid => by
    simp only [setAll]
    have hn' := List.nodup_cons.1 hn
    rw [setAll_get ι (L.set i o) os id hn'.2 (by simpa using h) (by simpa using hid)]
    rw [List.findIdx?_cons]
    by_cases hi : i = id
    · subst hi
      have hnone : ι.findIdx? (· == i) = none := by
        rw [List.findIdx?_eq_none_iff]; intro x hx; simp; intro e; subst e; exact hn'.1 hx
      simp [hnone, hid]
    · have hb : (i == id) = false := by simpa using hi
      rw [hb]
      simp only [Bool.false_eq_true, if_false]
      cases ι.findIdx? (· == id) with
      | none => simp only [Option.map_none]; rw [List.getElem?_set_ne hi]
      | some j => simp

theorem nodup_get {l : List Nat} (h : l.Nodup) {i j : Nat} (hi : i < l.length) (hj : j < l.length) (e : l[i] = l[j]) : i = j :=
  nodup_idx (l.map some) (by simpa [List.filterMap_map] using h) i j l[i] (by simp [hi]) (by simp [hj, e])
theorem great_lt {σ : Store} {g : Nat → Nat} {k : Nat} {objs : List (Option Obj)} {id : Nat} (h : id < σ.clock) : (great σ g k objs).ob id = match ixOf g k id with
    | some j => ((objs[j]?).getD none).map (rnO (gx g k σ.clock))
    | none => σ.ob id := by simp only [great, if_pos h] <;> (cases ixOf g k id <;> rfl)
theorem great_ge {σ : Store} {g : Nat → Nat} {k : Nat} {objs : List (Option Obj)} {id : Nat} (h : ¬ id < σ.clock) : (great σ g k objs).ob id = ((objs[id - σ.clock + k]?).getD none).map (rnO (gx g k σ.clock)) := by simp only [great, if_neg h]
theorem store_ext {a b : Store} (h : a.clock = b.clock) (k : ∀ id, a.ob id = b.ob id) : a = b := by cases a; cases b; simp only at h k; subst h; congr; funext id; exact k id
theorem great_L {L : List (Option Obj)} {ι : List Nat} {k : Nat} {objs : List (Option Obj)} (hι : ι.length = k) (hn : ι.Nodup) (hk : k ≤ objs.length) : great (St L) (ixg ι) k objs = St (greatL L ι k objs) := by
  have hlen : (setAll L ι (objs.map (Option.map (rnO (gx (ixg ι) k L.length))))).length = L.length := setAll_len _ _ _
  have hix : ∀ id, ixOf (ixg ι) k id = ι.findIdx? (· == id) := fun id => by
    cases h : ι.findIdx? (· == id) with
    | none =>
      cases h2 : ixOf (ixg ι) k id with
      | none => rfl
      | some j =>
        obtain ⟨h3, h4⟩ := ixOf_some h2
        rw [List.findIdx?_eq_none_iff] at h
        have hj : j < ι.length := by omega
        have := h (ι[j]) (List.getElem_mem hj)
        simp [ixg, List.getD_eq_getElem?_getD, List.getElem?_eq_getElem hj] at h4
        simp [h4] at this
    | some j =>
      have hj := List.findIdx?_eq_some_iff_getElem.1 h
      obtain ⟨h1, h2, _⟩ := hj
      have e : ixg ι j = id := by simp [ixg, List.getD_eq_getElem?_getD, List.getElem?_eq_getElem h1]; simpa using h2
      rw [← e]
      refine ixOf_of (fun a b ha hb hab => ?_) (by omega)
      simp only [ixg, List.getD_eq_getElem?_getD, List.getElem?_eq_getElem (show a < ι.length by omega), List.getElem?_eq_getElem (show b < ι.length by omega), Option.getD_some] at hab
      exact nodup_get hn _ _ hab
  refine store_ext (by simp only [great, greatL, St, List.length_append, hlen, List.length_map, List.length_drop]) (fun id => ?_)
  by_cases hid : id < L.length
  · rw [great_lt (show id < (St L).clock from hid), hix, greatL, St_ob, St_ob, List.getElem?_append_left (by rw [hlen]; exact hid), setAll_get _ _ _ _ hn (by simp; omega) hid]
    cases h : ι.findIdx? (· == id) with
    | none => rfl
    | some j =>
      simp only [List.getElem?_map]
      cases objs[j]? with
      | none => rfl
      | some x => cases x <;> rfl
  · rw [great_ge (show ¬ id < (St L).clock from hid), greatL, St_ob, List.getElem?_append_right (by rw [hlen]; omega), hlen, List.getElem?_map, List.getElem?_drop, St_clock]
    rw [show id - L.length + k = k + (id - L.length) by omega]
    cases objs[k + (id - L.length)]? with
    | none => rfl
    | some x => cases x <;> rfl

theorem RefC.at {E : Env} {f : FuncId} {k : Nat} {args : Cs} {objs : List (Option Obj)} {r : AV} {objs' : List (Option Obj)} (h : RefC E f k args objs r objs') {base : Nat} {L : List (Option Obj)} (ι : List Nat) (l : Nat)
    (hc : ((ι.length == k) && (decide ι.Nodup) && ι.all (fun i => decide (i < L.length) && decide (l ≤ i)) && decide (k ≤ objs'.length)) = true) (ho : Holds L (ixg ι) 0 objs)
    {A : Cs} {R : AV} {L' : List (Option Obj)} (hA : args.map (rn2 (ixg ι)) = A) (hR : rn3 (gx (ixg ι) k L.length) r = R) (hL : greatL L ι k objs' = L') : CallOK E base f A (St L) R (St L') (some l) := by
  simp only [Bool.and_eq_true, beq_iff_eq, decide_eq_true_eq, List.all_eq_true] at hc
  obtain ⟨⟨⟨h1, h2⟩, h3⟩, h4⟩ := hc
  subst hA; subst hR; subst hL
  rw [← great_L h1 h2 h4]
  have hg : ∀ j, j < k → ixg ι j ∈ ι := fun j hj => by
    simp only [ixg, List.getD_eq_getElem?_getD, List.getElem?_eq_getElem (show j < ι.length by omega), Option.getD_some]
    exact List.getElem_mem _
  refine h base (St L) (ixg ι) (fun a b ha hb hab => ?_) (fun j hj => (h3 _ (hg j hj)).1) l (fun j hj => (h3 _ (hg j hj)).2) (fun j o hj => ?_)
  · simp only [ixg, List.getD_eq_getElem?_getD, List.getElem?_eq_getElem (show a < ι.length by omega), List.getElem?_eq_getElem (show b < ι.length by omega), Option.getD_some] at hab
    exact nodup_get h2 _ _ hab
  · have := ho.get j o hj
    rw [Nat.zero_add] at this
    simp [St, this]

/-- One call's row, ahead of a table. -/
noncomputable def rone (F : FuncId) (A : Cs) (S : Store) (R : CR) (ci : CI) : CI := fun f args σ => open Classical in if f = F ∧ args = A ∧ σ = S then some R else ci f args σ
theorem rone_ok {E : Env} {base : Nat} {F : FuncId} {A : Cs} {S : Store} {r : AV} {S' : Store} {tl : Option Nat} {ci : CI} (h : CallOK E base F A S r S' tl) (k : CIOK E base ci) : CIOK E base (rone F A S (r, S', tl) ci) := by
  intro f args σ r' σr tl' hr
  unfold rone at hr
  split at hr
  · rename_i hc; obtain ⟨rfl, rfl, rfl⟩ := hc; cases hr; exact h
  · exact k _ _ _ _ _ _ hr
theorem rone_eq (F : FuncId) (A : Cs) (S : Store) (R : CR) (ci : CI) : rone F A S R ci F A S = some R := if_pos ⟨rfl, rfl, rfl⟩
end Go.Bx

/- More words of the printed functions: arithmetic, texts, copies. (Own text.) -/
namespace Go.Bx
set_option linter.unusedVariables false
set_option linter.unusedSimpArgs false
set_option linter.unusedSectionVars false
set_option linter.unusedVariables false
set_option linter.unusedSimpArgs false

def quoI (k : IntKind) (a b : Int) : Int := k.wrap (a.tdiv b)
def andI (k : IntKind) (a b : Int) : Int := k.wrap (BitVec.ofInt k.bits a &&& BitVec.ofInt k.bits b).toNat
def orI (k : IntKind) (a b : Int) : Int := k.wrap (BitVec.ofInt k.bits a ||| BitVec.ofInt k.bits b).toNat
def xorI (k : IntKind) (a b : Int) : Int := k.wrap (BitVec.ofInt k.bits a ^^^ BitVec.ofInt k.bits b).toNat
def shlI (k : IntKind) (a b : Int) : Int := k.wrap (a * 2 ^ (min b.toNat k.bits))
def shrI (k : IntKind) (a b : Int) : Int := a.fdiv (2 ^ (min b.toNat k.bits))
/-- A divisor, a count: is it one? -/
def nz (b : Int) : Option Unit := if b = 0 then none else some ()
def nn (b : Int) : Option Unit := if b < 0 then none else some ()
theorem nz_some {b : Int} {u : Unit} (h : nz b = some u) : ¬ b = 0 := by unfold nz at h; split at h <;> simp_all
theorem nn_some {b : Int} {u : Unit} (h : nn b = some u) : ¬ b < 0 := by unfold nn at h; split at h <;> simp_all

section
variable (k : IntKind) (a b : Int)
theorem intBin_add : intBin .add k a k b = some (.int k (k.wrap (a + b))) := by simp [intBin]
theorem intBin_sub : intBin .sub k a k b = some (.int k (k.wrap (a - b))) := by simp [intBin]
theorem intBin_mul : intBin .mul k a k b = some (.int k (k.wrap (a * b))) := by simp [intBin]
theorem intBin_quo : intBin .quo k a k b = if b = 0 then none else some (.int k (quoI k a b)) := by simp [intBin, quoI]
theorem intBin_rem : intBin .rem k a k b = if b = 0 then none else some (.int k (a.tmod b)) := by simp [intBin]
theorem intBin_and : intBin .and k a k b = some (.int k (andI k a b)) := by simp [intBin, andI]
theorem intBin_or : intBin .or k a k b = some (.int k (orI k a b)) := by simp [intBin, orI]
theorem intBin_xor : intBin .xor k a k b = some (.int k (xorI k a b)) := by simp [intBin, xorI]
theorem intBin_eql : intBin .eql k a k b = some (.bool (a == b)) := by simp [intBin]
theorem intBin_neq : intBin .neq k a k b = some (.bool (a != b)) := by simp [intBin]
theorem intBin_lss : intBin .lss k a k b = some (.bool (decide (a < b))) := by simp [intBin]
theorem intBin_leq : intBin .leq k a k b = some (.bool (decide (a ≤ b))) := by simp [intBin]
theorem intBin_gtr : intBin .gtr k a k b = some (.bool (decide (a > b))) := by simp [intBin]
theorem intBin_geq : intBin .geq k a k b = some (.bool (decide (a ≥ b))) := by simp [intBin]
theorem intBin_shl (k' : IntKind) : intBin .shl k a k' b = if b < 0 then none else some (.int k (shlI k a b)) := by simp only [intBin, shlI]
theorem intBin_shr (k' : IntKind) : intBin .shr k a k' b = if b < 0 then none else some (.int k (shrI k a b)) := by simp only [intBin, shrI]
end
/-- Two texts joined. -/
def cat (a b : Str) : Option Str := if ((a.length + b.length : Nat) : Int) > IntKind.i64.max then none else some (a ++ b)
theorem cat_some {a b r : Str} (h : cat a b = some r) : ¬ ((a.length + b.length : Nat) : Int) > IntKind.i64.max ∧ r = a ++ b := by
  unfold cat at h
  split at h
  · cases h
  · rename_i hc; exact ⟨hc, (Option.some.inj h).symm⟩
theorem mkS_append (a b : Str) : mkS a ++ mkS b = mkS (a ++ b) := by
  apply ByteArray.ext
  simp [mkS, ByteArray.data_append]
theorem strBin_add (a b : Str) : strBin .add (mkS a) (mkS b) = if ((a.length + b.length : Nat) : Int) > IntKind.i64.max then none else some (.string (mkS (a ++ b))) := by
  simp only [strBin, mkS_append]; rfl
theorem strBin_eql (a b : Str) : strBin .eql (mkS a) (mkS b) = some (.bool (a == b)) := by simp only [strBin, ByteArray.toList_eq]; rfl
theorem strBin_neq (a b : Str) : strBin .neq (mkS a) (mkS b) = some (.bool (a != b)) := by simp only [strBin, ByteArray.toList_eq]; rfl
/-! ### texts -/
def idxAV : Option TD → AV → AV → Option (AV × Option Obj)
  | some .str, .v (.string s), .v (.int _ i) => if h : 0 ≤ i ∧ i.toNat < s.size then some (.v (.int .u8 ((s[i.toNat]'h.2).toNat : Int)), none) else none
  | _, _, _ => none
theorem evA_index (T : Tab) (ρ : Operand → AV) (c : Nat) (t : TypeId) (x ix : Operand) : evA T ρ c (.index t x ix) = idxAV (tdesc T t) (ρ x) (ρ ix) := by
  simp only [evA]
  generalize tdesc T t = d
  generalize ρ x = a
  generalize ρ ix = b
  cases d with
  | none => rfl
  | some d =>
    cases d <;> try rfl
theorem idx_str (s : Str) (k : IntKind) (i : Int) : idxAV (some .str) (.v (.string (mkS s))) (.v (.int k i)) = (bt s i).map fun b => (.v (.int .u8 b), none) := by
  simp only [idxAV, bt, rd]
  have hsz : (mkS s).size = s.length := rfl
  by_cases h0 : 0 ≤ i
  · by_cases h1 : i.toNat < s.length
    · have hc : 0 ≤ i ∧ i.toNat < (mkS s).size := ⟨h0, by rw [hsz]; exact h1⟩
      rw [dif_pos hc, if_pos h0, List.getElem?_eq_getElem h1]
      rfl
    · have hc : ¬ (0 ≤ i ∧ i.toNat < (mkS s).size) := fun h => h1 (by rw [hsz] at h; exact h.2)
      rw [dif_neg hc, if_pos h0, List.getElem?_eq_none (by omega)]
      rfl
  · have hc : ¬ (0 ≤ i ∧ i.toNat < (mkS s).size) := fun h => h0 h.1
    rw [dif_neg hc, if_neg h0]; rfl
theorem mkS_extract (s : Str) (l h : Nat) : (mkS s).extract l h = mkS ((s.take h).drop l) := by
  apply ByteArray.ext
  simp [mkS, ByteArray.data_extract, List.extract_eq_take_drop, List.drop_take]
theorem mkS_sz (s : Str) : (mkS s).size = s.length := rfl
theorem mkS_mk (l : List UInt8) : ByteArray.mk (List.toArray l) = mkS l := rfl
theorem mkS_empty : ByteArray.empty = mkS [] := rfl

/-! ### beside elder objects -/
section
variable {E : Env} {base : Nat} {c00 : Ctx} {O : List (Option Obj)} (hU : Under E base c00 (St O))
include hU
theorem Wk.weakK {s : FS} {tm' : Cs} (L : List (Option Nat)) (l : List (Option Obj)) (hd : (L.filterMap id).Nodup) {k : Nat}
    (hO : O.length = k) (hk : ((List.range k).all fun a => L[a]? == some (some a)) = true) (hs : WSr s.σ (rhoOf L) (vtOf L) L l) (htm : WVs s.σ (rhoOf L) (vtOf L) s.tm tm') : Wk base c00 (St O) s ⟨tm', St l, s.low, s.c0⟩ :=
  Wk.weakR hU L l hd (fun a ha => by
    have := List.all_eq_true.1 hk a (List.mem_range.2 (by omega))
    simpa using this) hs htm
theorem Wk.moveTo {tm tm' : Cs} {l l' : List (Option Obj)} {c0 : Nat} (i : Nat) (o : Obj) (hi : l[i]? = some (some o))
    (htm : tm.all sh3 = true) (hl : l.all shOo = true) (h1 : tm.map (rn3 (mv i l.length)) = tm') (h2 : ((l.map (Option.map (rnO (mv i l.length)))).set i none) ++ [some (rnO (mv i l.length) o)] = l') :
    Wk base c00 (St O) ⟨tm, St l, some 0, c0⟩ ⟨tm', St l', some 0, c0⟩ := by
  subst h1; subst h2; exact Wk.move hU i o hi htm hl
end
/-! ### pieces of rows -/
def rdo {α : Type} (l : List α) (lo n : Nat) (i : Int) : Option α := if 0 ≤ i ∧ i.toNat < n then l[lo + i.toNat]? else none
theorem rdo_some {α : Type} {l : List α} {lo n : Nat} {i : Int} {x : α} (h : rdo l lo n i = some x) : 0 ≤ i ∧ i.toNat < n ∧ l[lo + i.toNat]? = some x := by
  unfold rdo at h
  split at h
  · rename_i hc; exact ⟨hc.1, hc.2, h⟩
  · cases h
def setO {α : Type} (l : List α) (lo : Nat) (i : Int) (x : α) : List α := l.set (lo + i.toNat) x
theorem setO_eq {α : Type} (l : List α) (lo : Nat) (i : Int) (x : α) : setO l lo i x = l.set (lo + i.toNat) x := rfl
theorem setO_len {α : Type} (l : List α) (lo : Nat) (i : Int) (x : α) : (setO l lo i x).length = l.length := by simp [setO]
end Go.Bx

/- The builtin copy, onto the head of a row of single cells. (Own text.) -/
namespace Go.Bx
set_option linter.unusedVariables false
set_option linter.unusedSimpArgs false
set_option linter.unusedSectionVars false
set_option linter.unusedVariables false
set_option linter.unusedSectionVars false
set_option linter.unusedSimpArgs false

/-- A region that ends in a copy. -/
theorem Wp.regionCopy {E : Env} {base : Nat} {c00 : Ctx} {σ00 : Store} {s : FS} {R : Post} (hU : Under E base c00 σ00) {ci : CI} (hci : CIOK E base ci) {id : Nat} {ops : Array Oper} {o : Oper} {s1 : FS} {fs : List Fl} (hlast : ops.toList.getLast? = some o) (hg : o.guard = none)
    (hrun : evOps E ci ops ops.toList.dropLast s = some (s1, fs)) {t t' e : TypeId} {Rw : TRow} (hk : tdesc E.T t = some (.slice e)) (hk' : tdesc E.T t' = some (.slice e)) (hR : E.T e = some Rw) (hz : Rw.sz = 1) {d x : Operand} (ho : o.op = .call ⟨.builtin .copy, #[d, x], #[t, t']⟩)
    {rid n : Nat} {es new : List Cs} (hd : evOp E.gl s1.tm d = .row rid 1 0 n) (hob : s1.σ.ob rid = some ⟨1, false, true, es⟩) (hn : n = es.length) (hx : elems s1.σ (evOp E.gl s1.tm x) = some new) (hw : (new.all fun c => c.length == Rw.sz) = true) (hpl : (new.all fun el => el.all pl) = true) (hle : new.length ≤ n)
    (k : R .nrm ⟨putTm s1.tm o.dst (.v (.int .i64 new.length)), s1.σ.put rid (some ⟨1, false, true, new ++ es.drop new.length⟩), omin s1.low (cut s1.c0 (some rid)), s1.c0⟩) : Wp E base c00 σ00 (.region id ops false) s R := fun cx a hS Q hQ => by
  refine wp_region_list ?_
  have hops : ops.toList = ops.toList.dropLast ++ [o] := by
    have hne : ops.toList ≠ [] := fun h => by rw [h] at hlast; simp at hlast
    have := List.dropLast_concat_getLast hne
    rw [List.getLast?_eq_some_getLast hne] at hlast
    rw [← Option.some.inj hlast]; exact this.symm
  rw [hops]
  have key : ∀ (l : List Oper) {s s1 : FS} {fs : List Fl} {c : Ctx} {a : Act}, SR base c00 σ00 s c a → evOps E ci ops l s = some (s1, fs) →
      (∀ c' a', SR base c00 σ00 s1 c' a' → wpList E.P ops Q [o] a' c'.w) → wpList E.P ops Q (l ++ [o]) a c.w := by
    intro l
    induction l with
    | nil => intro s s1 fs c a hS h hQ; cases h; exact hQ c a hS
    | cons q l ih =>
      intro s s1 fs c a hS h hQ
      simp only [evOps] at h
      split at h
      · rename_i s2 f h1
        split at h
        · rename_i s3 fs' h2; cases h
          exact wpList_step fun K hK => step_ok hU.tab hci hU.inv hU.gl hS h1 K Q (fun u c' hS' => hK _ _ (ih hS' h2 hQ)) (fun V _ _ hV => absurd hV (hU.np V))
        · cases h
      · cases h
  refine key _ hS hrun (fun c' a' hS' => ?_)
  refine wpList_plain hg fun K hK => ?_
  have hρ : ∀ x, Rep c' (evOp E.gl s1.tm x) (a'.eval x) := fun x => evOp_reps (hU.gl.mono hS'.ext) (fun t _ => hS'.tm t)
  have hsim := copy_at hU.tab hS'.inv hρ o hk hk' hR hz ho hd hob hn hx hw (fun el hel z hzz => List.all_eq_true.1 (List.all_eq_true.1 hpl el hel) z hzz) hle
  refine (OpWp.ofB hsim) K Q (fun u c'' e hi hu hfr => hK _ _ ?_) (fun V _ hV => absurd hV (hU.np V))
  refine hQ .nrm _ _ _ k ?_
  have hdom : ∀ id l, c00.m id = some l → id < σ00.clock := hU.inv.dom
  have hgo : StGo s1.σ (s1.σ.put rid (some ⟨1, false, true, new ++ es.drop new.length⟩)) := ⟨Nat.le_refl _, fun id ob h => by
    simp only [Store.put] at h
    split at h
    · rename_i hid; subst hid; exact .inl ⟨_, hob⟩
    · exact .inl ⟨_, h⟩⟩
  refine ⟨hi, hS'.ext.trans e, ?_, hS'.go.trans hgo, hS'.c0, ?_, ?_, ?_, fun id h1 h2 => absurd h2 (hU.full id h1)⟩
  · have h1 := Fr.trans hS'.fr hfr hS'.go.clock hS'.ext hS'.inv.core hS'.go.live' hdom
    simp only
    rw [hS'.c0]
    exact Fr.low h1 hdom (fun id l => omin_cut id l)
  · exact put_reps hS'.sz (fun t => (hS'.tm t).mono e) o.dst hu
  · simp only [put_size, putTm_length]; exact hS'.sz
  · rw [put_defers']; exact hS'.dfr
/-- A list's head written over. -/
def cpy {α : Type} (l m : List α) : Option (List α) := if m.length ≤ l.length then some (m ++ l.drop m.length) else none
theorem cpy_some {α : Type} {l m r : List α} (h : cpy l m = some r) : m.length ≤ l.length ∧ r = m ++ l.drop m.length := by
  unfold cpy at h
  split at h
  · rename_i hc; exact ⟨hc, (Option.some.inj h).symm⟩
  · cases h
end Go.Bx

/- Contracts of functions of plain values, from contracts told of the machine. (Own text.) -/
namespace Go.Bx
set_option linter.unusedVariables false
set_option linter.unusedSimpArgs false
set_option linter.unusedSectionVars false
open Go.RowKit
set_option linter.unusedVariables false

theorem Inv.below {σ : Store} {c : Ctx} {base : Nat} (hI : Inv σ c base) {w' : World} (hB : Below c.w.heap.size c.w w') : Ext c ⟨w', c.S, c.m, []⟩ ∧ Inv σ ⟨w', c.S, c.m, []⟩ base ∧ Fr c σ none ⟨w', c.S, c.m, []⟩ := by
  have hcell : ∀ a, a.block < c.w.heap.size → w'.cell? a = c.w.cell? a := fun a ha => by
    simp only [World.cell?, hB.block _ ha]
  have hS : ∀ a, c.S a → a.block < c.w.heap.size := fun a ha => by
    obtain ⟨_, u, hu⟩ := hI.core.inn a ha
    exact block_of_cell hu
  have e : Ext c ⟨w', c.S, c.m, []⟩ := ⟨fun _ h => h, fun a ha => hcell a (hS a ha), fun _ _ h => h, hB.size, hB.os, hB.tape, hB.output, fun b t hb => by
    have hlt : b < c.w.heap.size := by
      cases Nat.lt_or_ge b c.w.heap.size with
      | inl h => exact h
      | inr h => simp [tyOf, Array.getElem?_eq_none h] at hb
    rw [tyOf_of (hB.block b hlt)]; exact hb⟩
  refine ⟨e, ⟨⟨fun id o L ho hm => (hI.core.obj id o L ho hm).mono e (hB.block _ (hI.core.b_lt ho hm)), hI.core.virt, hI.core.apart, fun a ha => ?_, hI.core.free, Nat.le_trans hI.core.base_le hB.size⟩, hI.dom, hI.old⟩,
    ⟨fun b hb _ => hB.block b hb, fun _ _ h => .inl h, fun _ _ h h' => absurd h h', fun _ h => .inl h⟩⟩
  obtain ⟨h1, u, hu⟩ := hI.core.inn a ha
  exact ⟨h1, u, (hcell a (hS a ha)).trans hu⟩

theorem reps_v {c : Ctx} : ∀ {vs us : List Value}, Reps c (vs.map AV.v) us → us = vs
  | [], us, h => by have := h.1; cases us with | nil => rfl | cons _ _ => simp at this
  | v :: vs, us, h => by
    cases us with
    | nil => have := h.1; simp at this
    | cons u us =>
      have h0 := h.2 0 (.v v) u rfl rfl
      have ht : Reps c (vs.map AV.v) us := ⟨by have := h.1; simpa using this, fun j x y h1 h2 => h.2 (j + 1) x y (by simpa using h1) (by simpa using h2)⟩
      cases h0
      rw [reps_v ht]

theorem pure_below {E : Env} {f : FuncId} {fn : Func} {vs : List Value} {r : Value} (hf : E.P.funcs[f]? = some fn) (hb : fn.body.isSome = true) (hname : fn.name ≠ "runtime.NumGoroutine")
    (h : ∀ w : World, Calls E.P f vs.toArray w fun e w' => e = .returned r ∧ Below w.heap.size w w') : PureOK E f (vs.map AV.v) (.v r) := by
  intro base σ
  refine ⟨StGo.importAV _ _, fun _ id hid => importAV_keeps _ _ hid, ⟨fn, hf, hb, hname⟩, fun c us hI hG hus => ⟨fun id hid _ => importAV_keeps _ _ hid, ?_⟩⟩
  obtain rfl := reps_v hus
  refine (h c.w).mono ?_
  rintro e w' ⟨rfl, hB⟩
  obtain ⟨h1, h2, h3⟩ := hI.below hB
  exact .inl ⟨r, ⟨w', c.S, c.m, []⟩, rfl, rfl, h1, h2, .v _, h3⟩
end Go.Bx

/- Labels. (Own text.) -/
namespace Go.Bx
set_option linter.unusedVariables false
set_option linter.unusedSimpArgs false
set_option linter.unusedSectionVars false
set_option linter.unusedVariables false

/-- The bodies of a code's scopes, in their order. -/
def scopesOf : Code → List Code
  | .seq a b => scopesOf a ++ scopesOf b
  | .cond _ a b => scopesOf a ++ scopesOf b
  | .block _ b => scopesOf b
  | .loop b => scopesOf b
  | .scope b => b :: scopesOf b
  | _ => []
def sb (f : Func) (n : Nat) : Code := (((f.body.map scopesOf).getD [])[n]?).getD .skip
/-- What stands behind a label. -/
def lbl (b : Code) (l : Nat) : Code := match findLabel b l with
  | some (.seq .skip r) => r
  | _ => .skip

section
variable {E : Env} {base : Nat} {c00 : Ctx} {σ00 : Store} {s : FS} {R R' : Post} {b b' c c' : Code}
theorem Wp.scopeE (h : b' = b) (k : Wp E base c00 σ00 b s (Jump E base c00 σ00 b' R)) : Wp E base c00 σ00 (.scope b) s R := by subst h; exact Wp.scope (WpS.step k)
theorem Wp.codeE (h : c' = c) (k : Wp E base c00 σ00 c s R) : Wp E base c00 σ00 c' s R := by subst h; exact k
theorem gotoTo {l : Nat} (hl : findLabel b l = some (.seq .skip c)) (h : Wp E base c00 σ00 c s (Jump E base c00 σ00 b R)) : Jump E base c00 σ00 b R (.goto l) s :=
  jumpG hl (WpS.step (Wp.seq (Wp.skip h)))
theorem jump_mono (h : ∀ ex s1, R ex s1 → R' ex s1) : ∀ ex s1, Jump E base c00 σ00 b R ex s1 → Jump E base c00 σ00 b R' ex s1 := fun ex s1 hj => by
  cases ex with
  | goto l =>
    simp only [Jump] at hj ⊢
    split at hj
    · exact Tw.mono hj h
    · exact h _ _ hj
  | _ => exact h _ _ hj
theorem Wp.labelE (h : c' = c) (k : Wp E base c00 σ00 c' s (Jump E base c00 σ00 b R)) (m : ∀ ex s1, R ex s1 → R' ex s1) : Wp E base c00 σ00 c s (Jump E base c00 σ00 b R') := by
  subst h; exact Tw.mono k (jump_mono m)
end
end Go.Bx

/- A builder's words. (Own text.) -/
namespace Go.Bx
set_option linter.unusedVariables false
set_option linter.unusedSimpArgs false
set_option linter.unusedSectionVars false
open Go.RowKit
set_option linter.unusedVariables false
set_option linter.unusedSimpArgs false

/-- A text's bytes, as a row of whole numbers. -/
def bts (s : Str) : List Int := s.map fun b => (b.toNat : Int)
/-- .. and back. -/
def stb (l : List Int) : Str := l.map fun i => UInt8.ofNat i.toNat
theorem stb_bts (s : Str) : stb (bts s) = s := by
  induction s with
  | nil => rfl
  | cons b s ih => simp only [bts, stb, List.map_cons, List.cons.injEq] at ih ⊢; exact ⟨by simp, ih⟩
theorem bts_length (s : Str) : (bts s).length = s.length := by simp [bts]
theorem byteCells_mkS (s : Str) : byteCells (mkS s) = List.map (cInt .u8) (bts s) := by
  simp only [byteCells, mkS, bts, List.map_map]; rfl

theorem leaf_slf (id : Nat) : leaf (.slf id) = true := rfl
theorem leaf_trow (id : Nat) (t : TypeId) (n : Nat) : leaf (.trow id t n) = true := rfl
theorem leaf_tptr (id : Nat) (t : TypeId) : leaf (.tptr id t) = true := rfl
theorem WV.trow_eq {σ : Store} {ρ : Nat → Option Nat} {vt : Nat → Bool} {id id' n n' : Nat} {t : TypeId} (h : ρ id' = some id) (e : n = n') : WV σ ρ vt (.trow id t n) (.trow id' t n') := by subst e; exact .trow h

/-- The world has gone on, but for one block, whose cells are as they were. -/
structure FzOK (w w' : World) (g : Nat) : Prop where
  other : ∀ k, k < w.heap.size → k ≠ g → w'.heap[k]? = w.heap[k]?
  cell : ∀ a, a.block < w.heap.size → w'.cell? a = w.cell? a
  ty : ∀ b t, tyOf w b = some t → tyOf w' b = some t
  size : w.heap.size ≤ w'.heap.size
  os : w'.os = w.os
  tape : w'.tape = w.tape
  output : w'.output = w.output

theorem tyOf_lt {w : World} {b : Nat} {t : TypeId × Nat} (h : tyOf w b = some t) : b < w.heap.size := by
  cases Nat.lt_or_ge b w.heap.size with
  | inl h' => exact h'
  | inr h' => simp [tyOf, Array.getElem?_eq_none h'] at h

theorem FzOK.below {w w' : World} {g : Nat} (h : Below w.heap.size w w') : FzOK w w' g :=
  ⟨fun k hk _ => h.block k hk, fun a ha => by simp only [World.cell?, h.block _ ha], fun b t hb => by rw [tyOf_of (h.block b (tyOf_lt hb))]; exact hb, h.size, h.os, h.tape, h.output⟩

theorem FzOK.freeze {w : World} {g : Nat} {cur : Array Value} {T : TypeId} (h : w.heap[g]? = some (.cells cur T (0, 0))) (n : Nat) : FzOK w (w.freeze ⟨g, 0, none⟩ n) g := by
  have hh : ∀ k, (w.freeze ⟨g, 0, none⟩ n).heap[k]? = if n ≠ 0 ∧ k = g then some (.cells cur T (0, 0 + n)) else w.heap[k]? := by
    intro k
    unfold World.freeze
    split
    · rename_i h0; simp [h0]
    · rename_i h0
      simp only [Array.getElem?_modify]
      by_cases hk : g = k
      · subst hk; simp [h, h0]
      · rw [if_neg hk, if_neg (by rintro ⟨_, e⟩; exact hk e.symm)]
  have hz : (w.freeze ⟨g, 0, none⟩ n).heap.size = w.heap.size := by unfold World.freeze; split <;> simp
  refine ⟨fun k _ hk => by rw [hh, if_neg (by rintro ⟨_, e⟩; exact hk e)], fun a _ => ?_, fun b t hb => ?_, by omega, ?_, ?_, ?_⟩
  · simp only [World.cell?, hh]
    by_cases hk : n ≠ 0 ∧ a.block = g
    · rw [if_pos hk, hk.2, h]
    · rw [if_neg hk]
  · unfold tyOf at hb ⊢
    rw [hh]
    by_cases hk : n ≠ 0 ∧ b = g
    · rw [if_pos hk]; rw [hk.2, h] at hb; exact hb
    · rw [if_neg hk]; exact hb
  all_goals (unfold World.freeze; split <;> rfl)
theorem FzOK.inv {σ : Store} {c : Ctx} {base : Nat} (hI : Inv σ c base) {j : Nat} {o : Obj} {L : Loc} (ho : σ.ob j = some o) (hm : c.m j = some (.at L)) {w' : World} (h : FzOK c.w w' L.b) :
    Ext c ⟨w', c.S, c.m, []⟩ ∧ Inv (σ.put j none) ⟨w', c.S, c.m, []⟩ base ∧ Fr c σ (some j) ⟨w', c.S, c.m, []⟩ := by
  have hS : ∀ a, c.S a → a.block < c.w.heap.size := fun a ha => by
    obtain ⟨_, u, hu⟩ := hI.core.inn a ha
    exact block_of_cell hu
  have e : Ext c ⟨w', c.S, c.m, []⟩ := ⟨fun _ h => h, fun a ha => h.cell a (hS a ha), fun _ _ h => h, h.size, h.os, h.tape, h.output, h.ty⟩
  have g : ∀ {id q}, (σ.put j none).ob id = some q → id ≠ j ∧ σ.ob id = some q := fun {id q} hq => by
    simp only [Store.put] at hq
    by_cases hj : id = j
    · rw [if_pos hj] at hq; cases hq
    · rw [if_neg hj] at hq; exact ⟨hj, hq⟩
  refine ⟨e, ⟨⟨fun id q K hq hmq => ?_, fun id q hq hmq => hI.core.virt id q (g hq).2 hmq, fun id id' q q' K K' hq hq' h1 h2 h3 => hI.core.apart id id' q q' K K' (g hq).2 (g hq').2 h1 h2 h3, fun a ha => ?_, fun id q K hq hmq => hI.core.free id q K (g hq).2 hmq, Nat.le_trans hI.core.base_le h.size⟩, hI.dom, fun id q hq => hI.old id q (g hq).2⟩,
    ⟨fun b hb hne => h.other b hb (fun eb => hne j o L ho hm j rfl (Nat.le_refl _) eb.symm), fun _ _ h => .inl h, fun _ _ h h' => absurd h h', fun _ h => .inl h⟩⟩
  · obtain ⟨hne, hq'⟩ := g hq
    exact (hI.core.obj id q K hq' hmq).mono e (h.other _ (hI.core.b_lt hq' hmq) (hI.core.apart id j q o K L hq' ho hmq hm hne))
  · obtain ⟨h1, u, hu⟩ := hI.core.inn a ha
    exact ⟨h1, u, (h.cell a (hS a ha)).trans hu⟩

theorem FzOK.inv0 {σ : Store} {c : Ctx} {base : Nat} (hI : Inv σ c base) {j : Nat} {w' : World} (h : Below c.w.heap.size c.w w') :
    Ext c ⟨w', c.S, c.m, []⟩ ∧ Inv (σ.put j none) ⟨w', c.S, c.m, []⟩ base ∧ Fr c σ (some j) ⟨w', c.S, c.m, []⟩ := by
  obtain ⟨h1, h2, h3⟩ := hI.below h
  exact ⟨h1, h2.kill j, h3.weaken⟩
end Go.Bx

/- Calls that panic: their contracts. (Own text.) -/
namespace Go.Bx
set_option linter.unusedVariables false
set_option linter.unusedSimpArgs false
set_option linter.unusedSectionVars false
set_option linter.unusedVariables false
set_option linter.unusedSimpArgs false
set_option linter.unusedSectionVars false

/-- A result, or a panic. -/
inductive Pn (α : Type) where
  | ok (a : α)
  | pan (V : Value)

abbrev Env.wp (E : Env) (V : Value) : Env := { E with pan := fun v => v = V }
/-- What a call that never returns is told to give. -/
def noR : AV := .ifc 0 (.own false 0 [])
theorem noR_no : NoRep noR := fun c u h => by
  unfold noR at h
  cases h with
  | ifc h => cases h
def PureP (E : Env) (f : FuncId) (args : Cs) (V : Value) : Prop := ∀ (base : Nat) (σ : Store), CallOK (E.wp V) base f args σ noR σ none
def RefP (E : Env) (f : FuncId) (k : Nat) (args : Cs) (objs : List (Option Obj)) (V : Value) : Prop :=
  ∀ (base : Nat) (σ : Store) (g : Nat → Nat), (∀ i j, i < k → j < k → g i = g j → i = j) → (∀ j, j < k → g j < σ.clock) → ∀ l, (∀ j, j < k → l ≤ g j) → (∀ j o, objs[j]? = some (some o) → σ.ob (g j) = some (rnO g o)) →
    CallOK (E.wp V) base f (args.map (rn2 g)) σ noR σ (some l)

theorem pan_callOK {E : Env} {V : Value} {base : Nat} {f : FuncId} {fn : Func} {body : Code} {args : Cs} {σ : Store} {tl : Option Nat} (hf : E.P.funcs[f]? = some fn) (hb : fn.body = some body) (hname : fn.name ≠ "runtime.NumGoroutine")
    (h : ∀ (c : Ctx) (us : List Value), Inv σ c base → GlOK E c → Reps c args us → body.wp E.P (bodyPost E.P fn (PanEnd (E.wp V) c σ tl)) { tmps := us.toArray ++ Array.replicate (fn.ntmps - us.toArray.size) undef, defers := [] } c.w) :
    CallOK (E.wp V) base f args σ noR σ tl :=
  ⟨StGo.refl _, fun _ id _ => rfl, ⟨fn, hf, by simp [hb], hname⟩, fun c us hI hG hus => ⟨fun id _ _ => rfl, (calls_of_wp hf hb (h c us hI hG hus)).mono fun e w' h => .inr h⟩⟩

/-- What is asked of a body's end, where it may panic. -/
def EndP {α : Type} (V : α → Ex → FS → Prop) : Pn α → Ex → FS → Prop
  | .ok x, ex, s => (ex = .ret ∨ ex = .nrm) ∧ V x ex s
  | .pan W, ex, _ => ex = .pan W

theorem pureP_of_wp {E : Env} (hT : TabOK E.P E.T) (hmix : E.P.follows .mixedOrders = true) {f : FuncId} {fn : Func} {body : Code} {nt : Nat} {args : Cs} {V : Value} (hf : E.P.funcs[f]? = some fn) (hb : fn.body = some body) (hn : fn.ntmps = nt)
    (hname : fn.name ≠ "runtime.NumGoroutine") (ha : (args.all fun x => (cells x).all closed) = true) (hgl : ∀ g, closed (E.gl g) = true)
    (h : ∀ (base : Nat) (c00 : Ctx), Under E base c00 nilStore → Wp E base c00 nilStore body ⟨args ++ List.replicate (nt - args.length) (.v undef), nilStore, none, 0⟩ (fun ex s => ex = .pan V)) (hnp : ∀ V, ¬ E.pan V := by exact fun _ h => h) :
    PureP E f args V := by
  subst hn
  intro base σ
  refine pan_callOK hf hb hname fun c us hI hG hus => ?_
  have hus' : Reps c.none args us := ⟨hus.1, fun j x u h1 h2 => moveCells (c := c) (c' := c.none) rfl rfl (hus.2 j x u h1 h2) (List.all_eq_true.1 ha x (List.mem_of_getElem? h1))⟩
  have hU : Under E base c.none nilStore := ⟨hT, hmix, none_inv hI, fun g => Rep.moveC (c := c) (c' := c.none) rfl rfl (hG g) (hgl g), fun id hid => by simp [nilStore] at hid, hnp⟩
  have hst := start_SR (none_inv hI) rfl hus' fn.ntmps
  refine h base c.none hU c.none _ hst _ (fun ex s1 a' c' hr' hs => ?_)
  subst hr'
  obtain ⟨h1, h2, h3⟩ := hs
  refine ⟨h1, V, ⟨c'.w, c'.S, c.m, []⟩, rfl, rfl, rfl, ⟨h2.S, h2.cell, fun id l hl => hl, h2.size, h2.os, h2.tape, h2.output, h2.ty⟩, ⟨fun b hb _ => h3.block b hb (fun _ _ _ h => by cases h), fun id l hl => .inl hl, fun id L hl hn => absurd hl hn, fun a ha => ?_⟩⟩
  rcases h3.snew a ha with h | h | ⟨_, _, _, h, _⟩
  · exact .inl h
  · exact .inr (.inl h)
  · cases h

theorem refP_of_wp {E : Env} (hT : TabOK E.P E.T) (hmix : E.P.follows .mixedOrders = true) {f : FuncId} {fn : Func} {body : Code} {nt : Nat} (hf : E.P.funcs[f]? = some fn) (hb : fn.body = some body) (hn : fn.ntmps = nt)
    (hname : fn.name ≠ "runtime.NumGoroutine") (hgl : ∀ g, closed (E.gl g) = true) {objs : List (Option Obj)} {args : Cs} {k : Nat} {V : Value} (hr : RefOK k args objs (.tup []) objs)
    (h : ∀ (base : Nat) (c00 : Ctx), Under E base c00 (St objs) → Wp E base c00 (St objs) body ⟨args ++ List.replicate (nt - args.length) (.v undef), St objs, some 0, k⟩ (fun ex s => ex = .pan V)) (hnp : ∀ V, ¬ E.pan V := by exact fun _ h => h) :
    RefP E f k args objs V := by
  subst hn
  intro base σ g hg hgc l hl hold
  refine pan_callOK hf hb hname fun c us hI hG hus => ?_
  obtain ⟨c1, hc1w, hc1S, hc1m, hc1d, hI1, hG1, hus1, hfull, hob1⟩ := ref_small hgl hr hg hold hI hG hus
  have hm1 : ∀ j, j < k → c1.m j = c.m (g j) := fun j hj => by rw [hc1m]; simp [hj]
  have hU : Under E base c1 (St objs) := ⟨hT, hmix, hI1, hG1, fun id hid => hfull id (by simpa [St, hr.hk] using hid), hnp⟩
  have hst0 := start_SR hI1 hc1d hus1 fn.ntmps
  have hst : SR base c1 (St objs) ⟨args ++ List.replicate (fn.ntmps - args.length) (.v undef), St objs, some 0, k⟩ c1 { tmps := us.toArray ++ Array.replicate (fn.ntmps - us.toArray.size) undef, defers := [] } :=
    ⟨hst0.inv, hst0.ext, Fr.refl _ _ _, hst0.go, by simp [St, hr.hk], hst0.tm, hst0.sz, hst0.dfr, hst0.foot⟩
  have hrun := h base c1 hU c1 _ hst (bodyPost E.P fn (PanEnd (E.wp V) c σ (some l))) (fun ex s1 a' c' hr' hs => ?_)
  · rw [hc1w] at hrun; exact hrun
  subst hr'
  obtain ⟨h1, h2, h3⟩ := hs
  have hj : ∀ j o L', (St objs).ob j = some o → c1.m j = some (.at L') → ∃ id' o', σ.ob id' = some o' ∧ c.m id' = some (.at L') ∧ l ≤ id' := fun j o L' ho hm => by
    obtain ⟨hjk, _, h2⟩ := hob1 j o ho
    exact ⟨g j, _, h2, by rw [← hm1 j hjk]; exact hm, hl j hjk⟩
  refine ⟨h1.trans hc1d, V, ⟨c'.w, c'.S, c.m, []⟩, rfl, rfl, rfl, ⟨fun a ha => h2.S a (by rw [hc1S]; exact ha), fun a ha => by rw [← hc1w]; exact h2.cell a (by rw [hc1S]; exact ha), fun id l hl => hl, by rw [← hc1w]; exact h2.size, by rw [← hc1w]; exact h2.os, by rw [← hc1w]; exact h2.tape, by rw [← hc1w]; exact h2.output, fun b t hb => h2.ty b t (by rw [hc1w]; exact hb)⟩, ⟨fun b hb hne => ?_, fun id q hq => .inl hq, fun id L hm hn => absurd hm hn, fun a ha => ?_⟩⟩
  · rw [← hc1w]
    refine h3.block b (by rw [hc1w]; exact hb) (fun j o L' ho hm q _ _ => ?_)
    obtain ⟨id', o', h1, h2, h3⟩ := hj j o L' ho hm
    exact hne id' o' L' h1 h2 l rfl h3
  · rcases h3.snew a ha with h | h | ⟨j', o', L'', ho', hm', e, _⟩
    · rw [hc1S] at h; exact .inl h
    · right; left; rw [hc1w] at h; exact h
    · right; right
      obtain ⟨id', p, h1, h2, h3⟩ := hj j' o' L'' ho' hm'
      exact ⟨id', p, L'', h1, h2, e, l, rfl, h3⟩

theorem RefP.at {E : Env} {f : FuncId} {k : Nat} {args : Cs} {objs : List (Option Obj)} {V : Value} (h : RefP E f k args objs V) {base : Nat} {L : List (Option Obj)} (ι : List Nat) (l : Nat)
    (hc : ((ι.length == k) && (decide ι.Nodup) && ι.all (fun i => decide (i < L.length) && decide (l ≤ i))) = true) (ho : Holds L (ixg ι) 0 objs)
    {A : Cs} (hA : args.map (rn2 (ixg ι)) = A) : CallOK (E.wp V) base f A (St L) noR (St L) (some l) := by
  simp only [Bool.and_eq_true, beq_iff_eq, decide_eq_true_eq, List.all_eq_true] at hc
  obtain ⟨⟨h1, h2⟩, h3⟩ := hc
  subst hA
  have hg : ∀ j, j < k → ixg ι j ∈ ι := fun j hj => by
    simp only [ixg, List.getD_eq_getElem?_getD, List.getElem?_eq_getElem (show j < ι.length by omega), Option.getD_some]
    exact List.getElem_mem _
  refine h base (St L) (ixg ι) (fun a b ha hb hab => ?_) (fun j hj => (h3 _ (hg j hj)).1) l (fun j hj => (h3 _ (hg j hj)).2) (fun j o hj => ?_)
  · simp only [ixg, List.getD_eq_getElem?_getD, List.getElem?_eq_getElem (show a < ι.length by omega), List.getElem?_eq_getElem (show b < ι.length by omega), Option.getD_some] at hab
    exact nodup_get h2 _ _ hab
  · have := ho.get j o hj
    rw [Nat.zero_add] at this
    simp [St, this]
end Go.Bx

/- Data that hold themselves: what a reading tells. (Own text.) -/
namespace Go.Bx
set_option linter.unusedVariables false
set_option linter.unusedSimpArgs false
set_option linter.unusedSectionVars false
set_option linter.unusedVariables false
set_option linter.unusedSectionVars false
set_option linter.unusedSimpArgs false
def okT (T : Tab) (ok : TypeId → Bool) (t : TypeId) : Bool := match T t with
    | some r => match r.desc with
      | .int _ => true
      | .bool => true
      | .str => true
      | .slice e => (match T e with
        | some re => re.sz != 0
        | none => false) && ok e
      | .struct fs => layoutOK T fs 0 r.sz && fs.all fun f => ok f.2
      | _ => false
    | none => false
section
variable {P : Program} {T : Tab} (hT : TabOK P T) {H : Type} {enc : TypeId × Value → H} {w : World} {held : Bool}
include hT in
theorem read_repR {ok : TypeId → Bool} (hok : ∀ t, ok t = true → okT T ok t = true) : ∀ (fuel : Nat) (t : TypeId), ok t = true → ∀ (cs : List Value) (x : DataW H × List MemPlace), DataW.trod enc P w 0 (fun _ => true) held fuel t cs = some x →
    (∀ z ∈ x.1.weights P t, z ≤ reachBytes) → ∃ xs, Reps (rdCtx w) xs cs ∧ (∀ z ∈ xs, pl z = true) ∧ Shape T (fuel + 1) t xs x.1 := by
  intro fuel
  induction fuel using Nat.strongRecOn with
  | _ fuel ih =>
    intro t h0 cs x hx hw
    have h := hok t h0
    unfold okT at h
    cases hr : T t with
    | none => rw [hr] at h; cases h
    | some r =>
      rw [hr] at h
      obtain ⟨d, hu, hd⟩ := (hT t r hr).und
      have htd : tdesc T t = some r.desc := by simp [tdesc, hr]
      simp only at h
      split at h
      · rename_i k hk
        rw [hk] at hd htd; simp only [descOK] at hd; subst hd
        obtain ⟨z, rfl, rfl, h3⟩ := DataW.trod_int hu hx
        refine ⟨[.v (.int k z)], Reps.cons (.v _) (Reps.nil _), by simp [pl, Value.oneCell'], ?_⟩
        unfold Shape; rw [htd]; exact ⟨z, rfl, rfl, h3⟩
      · rename_i hk
        rw [hk] at hd htd; simp only [descOK] at hd; subst hd
        obtain ⟨b, rfl, rfl⟩ := DataW.trod_bool hu hx
        refine ⟨[.v (.bool b)], Reps.cons (.v _) (Reps.nil _), by simp [pl, Value.oneCell'], ?_⟩
        unfold Shape; rw [htd]; exact ⟨b, rfl, rfl⟩
      · rename_i hk
        rw [hk] at hd htd; simp only [descOK] at hd; subst hd
        obtain ⟨s, rfl, rfl, h3⟩ := DataW.trod_string hu hx
        refine ⟨[.v (.string s)], Reps.cons (.v _) (Reps.nil _), by simp [pl, Value.oneCell'], ?_⟩
        unfold Shape; rw [htd]
        refine ⟨s, rfl, rfl, ?_⟩
        have := hw s.data.toList.length (by simp [DataW.weights])
        simpa using this
      · rename_i e hk
        rw [hk] at hd htd; simp only [descOK] at hd; subst hd
        rw [Bool.and_eq_true] at h
        obtain ⟨h1, h2⟩ := h
        cases hre : T e with
        | none => rw [hre] at h1; cases h1
        | some re =>
          rw [hre] at h1
          have hsz : re.sz ≠ 0 := by simpa using h1
          have hce := cellsOf_tab hT hre
          rcases DataW.trod_slice hu hx with ⟨rfl, rfl⟩ | ⟨a, len, cap, elems, rest, m, hfu, rfl, rfl, _, hlc, hcm, hel, hev, _, _⟩
          · refine ⟨[.sl []], Reps.cons (.sl 0 0 0 (fun _ _ => undef) rfl (Nat.le_refl _) (fun h => absurd rfl h) nofun (fun i e j x h => by simp at h) (fun i e j x h => by simp at h)) (Reps.nil _), by simp [pl], ?_⟩
            unfold Shape; rw [htd]
            exact ⟨[], rfl, fun r _ => by simp, .inl ⟨rfl, rfl⟩⟩
          · have hwe : ∀ y ∈ elems, ∀ z ∈ y.1.weights P e, z ≤ reachBytes := by
              intro y hy z hz
              refine hw z ?_
              simp only [DataW.weights, hu, List.mem_cons, List.mem_append]
              exact .inr (.inl (weightsAll_in (List.mem_map.2 ⟨y, hy, rfl⟩) z hz))
            have hone : ∀ i, i < len → ∃ ps : Cs, ∃ vs : List Value, ∃ y, elems[i]? = some y ∧ w.cells? 0 (a.add (i * re.sz)) re.sz = some vs ∧ Reps (rdCtx w) ps vs ∧ (∀ z ∈ ps, pl z = true) ∧ Shape T fuel e ps y.1 := by
              intro i hi
              have h3 := hev i hi
              have hlt : i < elems.length := by omega
              rw [hce, List.getElem?_eq_getElem hlt, Option.bind_eq_some_iff] at h3
              obtain ⟨vs, h4, h5⟩ := h3
              obtain ⟨ps, h6, h7, h8⟩ := ih m (by omega) e h2 vs _ h5 (hwe _ (List.getElem_mem hlt))
              exact ⟨ps, vs, elems[i], by simp [hlt], h4, h6, h7, by rw [hfu]; exact h8⟩
            classical
            let ps : Nat → Cs := fun i => if h : i < len then (hone i h).choose else []
            let vs : Nat → List Value := fun i => if h : i < len then (hone i h).choose_spec.choose else []
            have hps : ∀ i, i < len → ∃ y, elems[i]? = some y ∧ w.cells? 0 (a.add (i * re.sz)) re.sz = some (vs i) ∧ Reps (rdCtx w) (ps i) (vs i) ∧ (∀ z ∈ ps i, pl z = true) ∧ Shape T fuel e (ps i) y.1 := by
              intro i hi
              have := (hone i hi).choose_spec.choose_spec
              simpa [ps, vs, hi] using this
            have hlen : ∀ i, i < len → (ps i).length = re.sz := by
              intro i hi
              obtain ⟨y, _, h4, h5, _⟩ := hps i hi
              rw [h5.1, (World.cells?_some h4).2.1]
            have hcell : ∀ i, i < len → ∀ j, j < re.sz → w.cell? ((a.add (i * re.sz)).add j) = (vs i)[j]? := by
              intro i hi j hj
              obtain ⟨y, _, h4, _⟩ := hps i hi
              exact (World.cells?_some h4).2.2 j hj
            have hspot : len ≠ 0 → a = ⟨a.block, a.off, none⟩ := by
              intro h0
              have h4 := hcell 0 (by omega) 0 (by omega)
              obtain ⟨y, _, h5, _⟩ := hps 0 (by omega)
              have h6 : 0 < (vs 0).length := by rw [(World.cells?_some h5).2.1]; omega
              rw [List.getElem?_eq_getElem h6] at h4
              simp only [Nat.zero_mul, Addr.add, if_true] at h4
              have : a.spot = none := by
                unfold World.cell? at h4
                split at h4
                · split at h4
                  · cases h4
                  · rename_i hs; simpa using hs
                · cases h4
              cases a; simp at this ⊢; exact this
            have haddr : ∀ i, i < len → ∀ j, j < re.sz → (a.add (i * re.sz)).add j = ⟨a.block, a.off + i * re.sz + j, none⟩ := by
              intro i hi j hj
              rw [hspot (by omega)]
              unfold Addr.add
              by_cases h1 : i * re.sz = 0 <;> by_cases h2 : j = 0 <;> simp [h1, h2]
            have hes : ∀ i c, ((List.range len).map ps)[i]? = some c → i < len ∧ c = ps i := by
              intro i c hi
              have hlt : i < len := by have := (List.getElem?_eq_some_iff.1 hi).1; simpa using this
              simp [hlt] at hi
              exact ⟨hlt, hi.symm⟩
            refine ⟨[.sl ((List.range len).map ps)], Reps.cons (.sl re.sz a.block a.off (fun i j => (vs i).getD j undef) (by simp) hlc (fun hne => ?_) (fun c hc => ?_) (fun i c j x hi hj => ?_) (fun i c j x hi hj => ?_)) (Reps.nil _), by simp [pl], ?_⟩
            · have : len ≠ 0 := by intro h0; subst h0; simp at hne
              rw [← hspot this]
            · obtain ⟨i, hi, rfl⟩ := List.mem_map.1 hc
              exact hlen i (by simpa using hi)
            · obtain ⟨hlt, rfl⟩ := hes i c hi
              have hj' : j < re.sz := by rw [← hlen i hlt]; exact (List.getElem?_eq_some_iff.1 hj).1
              have hvl : (vs i).length = re.sz := by obtain ⟨y, _, h4, _⟩ := hps i hlt; exact (World.cells?_some h4).2.1
              have h4 := hcell i hlt j hj'
              rw [haddr i hlt j hj', List.getElem?_eq_getElem (by omega)] at h4
              obtain ⟨y, _, _, _, h5, _⟩ := hps i hlt
              refine ⟨by rw [List.getD_eq_getElem?_getD, List.getElem?_eq_getElem (by omega)]; exact h4, ⟨rfl, _, h4⟩, h5 x (List.mem_of_getElem? hj)⟩
            · obtain ⟨hlt, rfl⟩ := hes i c hi
              have hj' : j < re.sz := by rw [← hlen i hlt]; exact (List.getElem?_eq_some_iff.1 hj).1
              have hvl : (vs i).length = re.sz := by obtain ⟨y, _, h4, _⟩ := hps i hlt; exact (World.cells?_some h4).2.1
              obtain ⟨y, _, _, h5, _⟩ := hps i hlt
              refine h5.2 j x _ hj ?_
              show (vs i)[j]? = some ((vs i).getD j undef)
              rw [List.getD_eq_getElem?_getD, List.getElem?_eq_getElem (by omega)]; rfl
            · unfold Shape; rw [htd]
              refine ⟨_, rfl, fun r' hr' => ?_, .inr ⟨elems.map (·.1), rest.map (·.1), rfl, by simp [hel], fun i c y hi hy => ?_⟩⟩
              · rw [hre] at hr'; cases hr'
                have h4 := hw ((elems.length + rest.length) * re.bytes) (by simp [DataW.weights, hu, bytesOf_tab hT hre])
                have h5 : len * re.bytes ≤ (elems.length + rest.length) * re.bytes := Nat.mul_le_mul_right _ (by omega)
                simp; omega
              · obtain ⟨hlt, rfl⟩ := hes i c hi
                obtain ⟨y', h4, _, _, _, h5⟩ := hps i hlt
                rw [List.getElem?_map, h4] at hy
                simp at hy; subst hy; exact h5
      · rename_i fs hk
        rw [hk] at hd htd; simp only [descOK] at hd
        obtain ⟨fields, rfl, hfs⟩ := hd
        rw [Bool.and_eq_true] at h
        obtain ⟨h1, h2⟩ := h
        obtain ⟨xs, m, hfu, rfl, hcs, hxl, hxe⟩ := DataW.trod_struct hu hx
        rw [cellsOf_tab hT hr] at hcs
        have hone : ∀ (i : Nat) (f : Field), fields[i]? = some f → ∀ y, xs[i]? = some y → ∃ ps, Reps (rdCtx w) ps ((cs.drop f.offset).take (P.cellsOf f.type)) ∧ (∀ z ∈ ps, pl z = true) ∧ Shape T fuel f.type ps y.1 := by
          intro i f hf y hy
          have h3 := hxe i f hf
          rw [hy] at h3
          have hin : (f.offset, f.type) ∈ fs := by
            rw [← hfs]; exact List.mem_map.2 ⟨f, by have := Array.mem_of_getElem? hf; simpa using this, rfl⟩
          rw [hfu]
          refine ih m (by omega) f.type (by simpa using List.all_eq_true.1 h2 _ hin) _ y h3 (fun z hz => hw z ?_)
          simp only [DataW.weights, hu]
          exact DataW.weights_mem_each (j := i) (t := f.type) (d := y.1) (by simp [hf]) (by simp [hy]) z hz
        obtain ⟨ps, h3, h4, h5⟩ := fields_rep hT hcs hone hxl fs 0 0 (fun i o t' hi => by
          rw [← hfs, List.getElem?_map] at hi
          cases hf : fields.toList[i]? with
          | none => rw [hf] at hi; cases hi
          | some f => rw [hf] at hi; simp at hi; exact ⟨f, by simpa using hf, hi.1, hi.2⟩) (by rw [← hfs]; simp) h1
        refine ⟨ps, by simpa using h3, h4, ?_⟩
        unfold Shape; rw [htd]
        exact ⟨xs.map (·.1), rfl, by simpa using h5⟩
      · cases h
end
end Go.Bx
