/- An evaluator of the model's code over plain values, and the proof that what it answers the machine does (Bc). Own text; parts are printed by a program of this claim's author. -/
import Derived.Test.YtbbeidhijbemlaaBb
/- Weakening: a state may be told with less: slots forgotten, objects dropped, numbered anew, rows as views. (Own text.) -/
namespace Go.Bx
set_option linter.unusedVariables false
set_option linter.unusedSimpArgs false
set_option linter.unusedSectionVars false
set_option linter.unusedVariables false
set_option linter.unusedSectionVars false
set_option linter.unusedSimpArgs false

/-- What is told by the second is told by the first: 'ρ' leads from the new numbers to the old ones; 'vt': new rows without a cell. -/
inductive WV (σ : Store) (ρ : Nat → Option Nat) (vt : Nat → Bool) : AV → AV → Prop
  | junk (x : AV) : WV σ ρ vt x .junk
  | keep {x : AV} (h : closed x = true) : WV σ ρ vt x x
  | row {id id' sz lo n : Nat} (h : ρ id' = some id) : WV σ ρ vt (.row id sz lo n) (.row id' sz lo n)
  | nil {id' sz lo : Nat} (h : vt id' = true) : WV σ ρ vt (.v (.slice none 0 0)) (.row id' sz lo 0)
  | nilsl : WV σ ρ vt (.v (.slice none 0 0)) (.sl [])
  | emp {id' sz lo : Nat} (h : vt id' = true) : WV σ ρ vt .emp (.row id' sz lo 0)
  | empsl : WV σ ρ vt .emp (.sl [])
  | nilemp : WV σ ρ vt (.v (.slice none 0 0)) .emp
  | view {k : Nat} {x : AV} {es : List Cs} (h : reify σ k x = some (.sl es)) : WV σ ρ vt x (.sl es)
  | ptr {id id' i off : Nat} (h : ρ id' = some id) : WV σ ρ vt (.ptr id i off) (.ptr id' i off)
  | agg {xs ys : Cs} (hl : xs.length = ys.length) (h : ∀ (j : Nat) x y, xs[j]? = some x → ys[j]? = some y → WV σ ρ vt x y) : WV σ ρ vt (.agg xs) (.agg ys)
  | tup {xs ys : Cs} (hl : xs.length = ys.length) (h : ∀ (j : Nat) x y, xs[j]? = some x → ys[j]? = some y → WV σ ρ vt x y) : WV σ ρ vt (.tup xs) (.tup ys)
  | fn {f : FuncId} {xs ys zs us : Cs} (hl : xs.length = ys.length) (hl' : zs.length = us.length) (h : ∀ (j : Nat) x y, xs[j]? = some x → ys[j]? = some y → WV σ ρ vt x y)
      (h' : ∀ (j : Nat) x y, zs[j]? = some x → us[j]? = some y → WV σ ρ vt x y) : WV σ ρ vt (.fn f xs zs) (.fn f ys us)

/-- Pointwise. -/
inductive WVs (σ : Store) (ρ : Nat → Option Nat) (vt : Nat → Bool) : Cs → Cs → Prop
  | nil : WVs σ ρ vt [] []
  | cons {x y : AV} {xs ys : Cs} (h : WV σ ρ vt x y) (t : WVs σ ρ vt xs ys) : WVs σ ρ vt (x :: xs) (y :: ys)

theorem WVs.get {σ : Store} {ρ : Nat → Option Nat} {vt : Nat → Bool} {xs ys : Cs} (h : WVs σ ρ vt xs ys) : xs.length = ys.length ∧ ∀ (j : Nat) x y, xs[j]? = some x → ys[j]? = some y → WV σ ρ vt x y := by
  induction h with
  | nil => exact ⟨rfl, fun j x y h => by simp at h⟩
  | cons h _ ih =>
    refine ⟨by simp [ih.1], fun j x y h1 h2 => ?_⟩
    cases j with
    | zero => simp at h1 h2; subst h1; subst h2; exact h
    | succ j => exact ih.2 j x y (by simpa using h1) (by simpa using h2)

theorem WVs.aggW {σ : Store} {ρ : Nat → Option Nat} {vt : Nat → Bool} {xs ys : Cs} (h : WVs σ ρ vt xs ys) : WV σ ρ vt (.agg xs) (.agg ys) := .agg h.get.1 h.get.2
theorem WVs.tupW {σ : Store} {ρ : Nat → Option Nat} {vt : Nat → Bool} {xs ys : Cs} (h : WVs σ ρ vt xs ys) : WV σ ρ vt (.tup xs) (.tup ys) := .tup h.get.1 h.get.2
theorem WVs.fnW {σ : Store} {ρ : Nat → Option Nat} {vt : Nat → Bool} {f : FuncId} {xs ys zs us : Cs} (h : WVs σ ρ vt xs ys) (k : WVs σ ρ vt zs us) : WV σ ρ vt (.fn f xs zs) (.fn f ys us) := .fn h.get.1 k.get.1 h.get.2 k.get.2
theorem WVs.append {σ : Store} {ρ : Nat → Option Nat} {vt : Nat → Bool} {xs ys zs us : Cs} (h : WVs σ ρ vt xs ys) (k : WVs σ ρ vt zs us) : WVs σ ρ vt (xs ++ zs) (ys ++ us) := by
  induction h with
  | nil => exact k
  | cons h _ ih => exact .cons h ih
theorem WVs.refl {σ : Store} {ρ : Nat → Option Nat} {vt : Nat → Bool} : ∀ {xs : Cs}, xs.all pl = true → WVs σ ρ vt xs xs
  | [], _ => .nil
  | x :: xs, h => by
    simp only [List.all_cons, Bool.and_eq_true] at h
    exact .cons (.keep (by cases x <;> simp_all [pl, closed])) (WVs.refl h.2)

/-- The elements of an object. -/
inductive WL (σ : Store) (ρ : Nat → Option Nat) (vt : Nat → Bool) : List Cs → List Cs → Prop
  | nil : WL σ ρ vt [] []
  | cons {e e' : Cs} {es es' : List Cs} (h : WVs σ ρ vt e e') (t : WL σ ρ vt es es') : WL σ ρ vt (e :: es) (e' :: es')
theorem WL.append {σ : Store} {ρ : Nat → Option Nat} {vt : Nat → Bool} {xs ys zs us : List Cs} (h : WL σ ρ vt xs ys) (k : WL σ ρ vt zs us) : WL σ ρ vt (xs ++ zs) (ys ++ us) := by
  induction h with
  | nil => exact k
  | cons h _ ih => exact .cons h ih
theorem WL.refl {σ : Store} {ρ : Nat → Option Nat} {vt : Nat → Bool} : ∀ {xs : List Cs}, (xs.all fun e => e.all pl) = true → WL σ ρ vt xs xs
  | [], _ => .nil
  | x :: xs, h => by
    simp only [List.all_cons, Bool.and_eq_true] at h
    exact .cons (WVs.refl h.1) (WL.refl h.2)
theorem WL.get {σ : Store} {ρ : Nat → Option Nat} {vt : Nat → Bool} {xs ys : List Cs} (h : WL σ ρ vt xs ys) : xs.length = ys.length ∧ ∀ (j : Nat) x y, xs[j]? = some x → ys[j]? = some y → WVs σ ρ vt x y := by
  induction h with
  | nil => exact ⟨rfl, fun j x y h => by simp at h⟩
  | cons h _ ih =>
    refine ⟨by simp [ih.1], fun j x y h1 h2 => ?_⟩
    cases j with
    | zero => simp at h1 h2; subst h1; subst h2; exact h
    | succ j => exact ih.2 j x y (by simpa using h1) (by simpa using h2)

/-- An object told with less. -/
inductive WO (σ : Store) (ρ : Nat → Option Nat) (vt : Nat → Bool) : Obj → Obj → Prop
  | same (sz : Nat) (sh : Bool) (es : List Cs) : WO σ ρ vt ⟨sz, sh, true, es⟩ ⟨sz, sh, true, es⟩
  | trunc (n : Nat) (sz : Nat) (es : List Cs) : WO σ ρ vt ⟨sz, false, true, es⟩ ⟨sz, false, true, es.take n⟩
  | mk {sz : Nat} {sh fl fl' : Bool} {es es' : List Cs} (h : WL σ ρ vt es es') (hl : (es'.all fun e => e.all leaf) = true) (hf : fl' = true → (es'.all fun e => e.all pl) = true) : WO σ ρ vt ⟨sz, sh, fl, es⟩ ⟨sz, sh, fl', es'⟩

structure WS (σ σ' : Store) (ρ : Nat → Option Nat) (vt : Nat → Bool) (c0 : Nat) : Prop where
  clock : c0 ≤ σ'.clock
  base : ∀ a, a < c0 → ρ a = some a
  new : ∀ a i, ρ a = some i → c0 ≤ a → c0 ≤ i
  lt : ∀ a i, ρ a = some i → i < σ.clock → a < σ'.clock
  inj : ∀ a b i, ρ a = some i → ρ b = some i → a = b
  vlt : ∀ a, vt a = true → a < σ'.clock ∧ c0 ≤ a
  old : ∀ a o', σ'.ob a = some o' → a < σ'.clock
  ob : ∀ a o', σ'.ob a = some o' → (vt a = true → o'.es = []) ∧ ∀ i, ρ a = some i → ∃ o, σ.ob i = some o ∧ WO σ ρ vt o o'

def Ctx.ren (c : Ctx) (ρ : Nat → Option Nat) (vt : Nat → Bool) : Ctx := { c with m := fun a => if vt a = true then some .virt else (ρ a).bind c.m }

theorem ren_m {c : Ctx} {ρ : Nat → Option Nat} {vt : Nat → Bool} {a : Nat} {l : ML} (h : (c.ren ρ vt).m a = some l) : (vt a = true ∧ l = .virt) ∨ (vt a = false ∧ ∃ i, ρ a = some i ∧ c.m i = some l) := by
  simp only [Ctx.ren] at h
  split at h
  · rename_i hv; cases h; exact .inl ⟨hv, rfl⟩
  · rename_i hv
    cases hr : ρ a with
    | none => rw [hr] at h; cases h
    | some i => rw [hr] at h; exact .inr ⟨by simpa using hv, i, rfl, h⟩

section
variable {c : Ctx} {base : Nat} {σ σ' : Store} {ρ : Nat → Option Nat} {vt : Nat → Bool} {c0 : Nat}

theorem wv_rep (hI : Inv σ c base) (hv : ∀ a i, ρ a = some i → vt a = false) {x y : AV} (h : WV σ ρ vt x y) : ∀ {u : Value}, Rep c x u → Rep (c.ren ρ vt) y u := by
  have hm : ∀ a i l, ρ a = some i → c.m i = some l → (c.ren ρ vt).m a = some l := fun a i l h1 h2 => by
    simp only [Ctx.ren, hv a i h1, Bool.false_eq_true, if_false, h1, Option.bind_some, h2]
  induction h with
  | junk x => intro u _; exact .junk
  | keep h => intro u hr; exact Rep.moveC (c := c) (c' := c.ren ρ vt) rfl rfl hr h
  | row h =>
    intro u hr
    cases hr with
    | row L h1 h2 h3 h4 h5 => exact .row L (hm _ _ _ h h1) h2 h3 h4 h5
    | row0 h1 => exact .row0 (hm _ _ _ h h1)
  | nil h =>
    intro u hr; cases hr
    exact .row0 (by simp [Ctx.ren, h])
  | nilsl =>
    intro u hr; cases hr
    exact .sl 0 0 0 (fun _ _ => undef) rfl (Nat.le_refl _) (fun h => absurd rfl h) (fun e he => by cases he) (fun i e j x hi => by simp at hi) (fun i e j x hi => by simp at hi)
  | emp h =>
    intro u hr; cases hr
    exact .row0 (by simp [Ctx.ren, h])
  | empsl =>
    intro u hr; cases hr
    exact .sl 0 0 0 (fun _ _ => undef) rfl (Nat.le_refl _) (fun h => absurd rfl h) (fun e he => by cases he) (fun i e j x hi => by simp at hi) (fun i e j x hi => by simp at hi)
  | nilemp => intro u hr; cases hr; exact .emp
  | view h => intro u hr; exact Rep.moveC (c := c) (c' := c.ren ρ vt) rfl rfl (reify_rep hI _ _ _ _ h hr) rfl
  | ptr h =>
    intro u hr; cases hr with
    | ptr L h1 => exact .ptr L (hm _ _ _ h h1)
  | @agg xs ys hl h ih =>
    intro u hr; cases hr with
    | agg hl' h' =>
      refine .agg (by rw [hl', hl]) (fun j x u h1 h2 => ?_)
      have hj := (List.getElem?_eq_some_iff.1 h1).1
      exact ih j xs[j] x (by simp [hl, hj]) h1 (h' j xs[j] u (by simp [hl, hj]) h2)
  | @tup xs ys hl h ih =>
    intro u hr; cases hr with
    | tup hl' h' =>
      refine .tup (by rw [hl', hl]) (fun j x u h1 h2 => ?_)
      have hj := (List.getElem?_eq_some_iff.1 h1).1
      exact ih j xs[j] x (by simp [hl, hj]) h1 (h' j xs[j] u (by simp [hl, hj]) h2)
  | @fn f xs ys zs us hl hk h h' ih ih' =>
    intro u hr; cases hr with
    | fn hl1 hl2 h1 h2 =>
      refine .fn (by rw [hl1, hl]) (by rw [hl2, hk]) (fun j x u q1 q2 => ?_) (fun j x u q1 q2 => ?_)
      · have hj := (List.getElem?_eq_some_iff.1 q1).1
        exact ih j xs[j] x (by simp [hl, hj]) q1 (h1 j xs[j] u (by simp [hl, hj]) q2)
      · have hj := (List.getElem?_eq_some_iff.1 q1).1
        exact ih' j zs[j] x (by simp [hk, hj]) q1 (h2 j zs[j] u (by simp [hk, hj]) q2)

theorem wo_get {o o' : Obj} (h : WO σ ρ vt o o') (hfl : o.flat = true → ∀ e ∈ o.es, ∀ x ∈ e, pl x = true) : o'.sz = o.sz ∧ o'.sh = o.sh ∧ (o'.es.length ≤ o.es.length ∧ (o.sh = true → o'.es.length = o.es.length)) ∧ (o'.flat = true → ∀ e ∈ o'.es, ∀ x ∈ e, pl x = true) ∧
    ∀ (i : Nat) e', o'.es[i]? = some e' → ∃ e, o.es[i]? = some e ∧ e'.length = e.length ∧ ∀ (j : Nat) x', e'[j]? = some x' → ∃ x, e[j]? = some x ∧ WV σ ρ vt x x' ∧ leaf x' = true := by
  cases h with
  | same sz sh es =>
    refine ⟨rfl, rfl, ⟨Nat.le_refl _, fun _ => rfl⟩, hfl, fun i e' he => ⟨e', he, rfl, fun j x' hx => ?_⟩⟩
    have hp := hfl rfl e' (List.mem_of_getElem? he) x' (List.mem_of_getElem? hx)
    exact ⟨x', hx, .keep (by cases x' <;> simp_all [pl, closed]), leaf_of_pl hp⟩
  | trunc n sz es =>
    have hsub : ∀ (i : Nat) e', (es.take n)[i]? = some e' → es[i]? = some e' := fun i e' he => by
      rw [List.getElem?_take] at he
      split at he
      · exact he
      · cases he
    refine ⟨rfl, rfl, ⟨by simp; omega, fun h => by simp at h⟩, fun _ e he => hfl rfl e (List.mem_of_mem_take he), fun i e' he => ⟨e', hsub i e' he, rfl, fun j x' hx => ?_⟩⟩
    have hp := hfl rfl e' (List.mem_of_getElem? (hsub i e' he)) x' (List.mem_of_getElem? hx)
    exact ⟨x', hx, .keep (by cases x' <;> simp_all [pl, closed]), leaf_of_pl hp⟩
  | @mk sz sh fl fl' es es' h hl hf =>
    refine ⟨rfl, rfl, ⟨Nat.le_of_eq h.get.1.symm, fun _ => h.get.1.symm⟩, fun hfl' e he x hx => ?_, fun i e' he => ?_⟩
    · exact List.all_eq_true.1 (List.all_eq_true.1 (hf hfl') e he) x hx
    · have hi := (List.getElem?_eq_some_iff.1 he).1
      have hi' : i < es.length := by rw [h.get.1]; exact hi
      have hw := h.get.2 i es[i] e' (by simp [hi']) he
      refine ⟨es[i], by simp [hi'], hw.get.1.symm, fun j x' hx => ?_⟩
      have hj := (List.getElem?_eq_some_iff.1 hx).1
      have hj' : j < es[i].length := by rw [hw.get.1]; exact hj
      exact ⟨es[i][j], by simp [hj'], hw.get.2 j _ x' (by simp [hj']) hx, List.all_eq_true.1 (List.all_eq_true.1 hl e' (List.mem_of_getElem? he)) x' (List.mem_of_getElem? hx)⟩

theorem ws_inv (hI : Inv σ c base) (hv : ∀ a i, ρ a = some i → vt a = false) (h : WS σ σ' ρ vt c0) : Inv σ' (c.ren ρ vt) base := by
  have hat : ∀ {a L}, (c.ren ρ vt).m a = some (.at L) → ∃ i, ρ a = some i ∧ c.m i = some (.at L) := fun {a L} hm => by
    rcases ren_m hm with ⟨_, h2⟩ | ⟨_, h2⟩
    · cases h2
    · exact h2
  refine ⟨⟨?_, ?_, ?_, hI.core.inn, ?_, hI.core.base_le⟩, ?_, h.old⟩
  · intro a o' L ho hm
    obtain ⟨i, hr, hmi⟩ := hat hm
    obtain ⟨o, hoi, hw⟩ := (h.ob a o' ho).2 i hr
    have hok := hI.core.obj i o L hoi hmi
    obtain ⟨h1, h2, h3, h4, h5⟩ := wo_get hw hok.flat
    obtain ⟨arr, T, q1, q2, q3⟩ := hok.mem
    refine ⟨hok.sz.trans h1.symm, hok.base, Nat.le_trans h3.1 hok.tot, fun e he => ?_, fun e he x hx => ?_, h4, arr, T, q1, q2, fun k e' j x' hk hj => ?_⟩
    · obtain ⟨k, hk⟩ := List.mem_iff_getElem?.1 he
      obtain ⟨e0, p1, p2, _⟩ := h5 k e hk
      rw [p2, h1]; exact hok.wid e0 (List.mem_of_getElem? p1)
    · obtain ⟨k, hk⟩ := List.mem_iff_getElem?.1 he
      obtain ⟨e0, p1, p2, p3⟩ := h5 k e hk
      obtain ⟨j, hj⟩ := List.mem_iff_getElem?.1 hx
      exact (p3 j x hj).choose_spec.2.2
    · obtain ⟨e0, p1, p2, p3⟩ := h5 k e' hk
      obtain ⟨x, p4, p5, _⟩ := p3 j x' hj
      obtain ⟨u, r1, r2, r3⟩ := q3 k e0 j x p1 p4
      exact ⟨u, r1, wv_rep hI hv p5 r2, fun hsh => r3 (by rw [← h2]; exact hsh)⟩
  · intro a o' ho hm
    rcases ren_m hm with ⟨h1, _⟩ | ⟨_, i, hr, hmi⟩
    · exact (h.ob a o' ho).1 h1
    · obtain ⟨o, hoi, hw⟩ := (h.ob a o' ho).2 i hr
      have hes := hI.core.virt i o hoi hmi
      cases hw with
      | same sz sh es => exact hes
      | trunc n sz es => simp only at hes ⊢; rw [hes]; simp
      | mk h1 _ _ =>
        have := h1.get.1
        simp only at hes; subst hes
        exact List.eq_nil_of_length_eq_zero (by simpa using this.symm)
  · intro a b o o' L L' ho ho' hm hm' hab
    obtain ⟨i, hr, hmi⟩ := hat hm
    obtain ⟨j, hs, hmj⟩ := hat hm'
    obtain ⟨p, hp, _⟩ := (h.ob a o ho).2 i hr
    obtain ⟨q, hq, _⟩ := (h.ob b o' ho').2 j hs
    exact hI.core.apart i j p q L L' hp hq hmi hmj (fun e => hab (h.inj a b i hr (by rw [hs, e])))
  · intro a o' L ho hm x hx hb
    obtain ⟨i, hr, hmi⟩ := hat hm
    obtain ⟨o, hoi, hw⟩ := (h.ob a o' ho).2 i hr
    have hok := hI.core.obj i o L hoi hmi
    obtain ⟨h1, h2, h3, h4, h5⟩ := wo_get hw hok.flat
    rcases hI.core.free i o L hoi hmi x hx hb with hf | ⟨hf, hg⟩
    · exact .inl hf
    · exact .inr ⟨by rw [h2]; exact hf, by rw [h3.2 hf]; exact hg⟩
  · intro a l hm
    rcases ren_m hm with ⟨h1, _⟩ | ⟨_, i, hr, hmi⟩
    · exact (h.vlt a h1).1
    · exact h.lt a i hr (hI.dom i l hmi)

/-- A state told with less. -/
theorem SR.weak {c00 : Ctx} {σ00 : Store} (hI00 : Inv σ00 c00 base) (hfull : ∀ id, id < σ00.clock → c00.m id ≠ none) {s : FS} {a : Act} (hS : SR base c00 σ00 s c a) (hv : ∀ a i, ρ a = some i → vt a = false)
    (hW : WS s.σ σ' ρ vt σ00.clock) {tm' : Cs} (htm : WVs s.σ ρ vt s.tm tm') : SR base c00 σ00 ⟨tm', σ', s.low, s.c0⟩ (c.ren ρ vt) a := by
  obtain ⟨hl, hw⟩ := htm.get
  have hle : ∀ id, id < σ00.clock → (c.ren ρ vt).m id = c.m id := fun id hid => by
    simp only [Ctx.ren, hv id id (hW.base id hid), Bool.false_eq_true, if_false, hW.base id hid, Option.bind_some]
  refine ⟨ws_inv hS.inv hv hW, ⟨hS.ext.S, hS.ext.cell, fun id l hl => ?_, hS.ext.size, hS.ext.os, hS.ext.tape, hS.ext.output⟩, ⟨hS.fr.block, ?_, ?_, hS.fr.snew⟩, ⟨hW.clock, ?_⟩, hS.c0, ?_, hS.sz.trans hl, hS.dfr, ?_⟩
  · rw [hle id (hI00.dom id l hl)]; exact hS.ext.m id l hl
  · intro id l hm
    by_cases hid : id < σ00.clock
    · rw [hle id hid] at hm; exact hS.fr.mnew id l hm
    · right; omega
  · intro id L hm hn
    by_cases hid : id < σ00.clock
    · rw [hle id hid] at hm; exact hS.fr.bnew id L hm hn
    · rcases ren_m hm with ⟨_, h2⟩ | ⟨_, i, hr, hmi⟩
      · cases h2
      · have hge := hW.new id i hr (by omega)
        exact hS.fr.bnew i L hmi (fun h => by have := hI00.dom i _ h; omega)
  · intro id o ho
    by_cases hid : id < σ00.clock
    · obtain ⟨o0, h1, _⟩ := (hW.ob id o ho).2 id (hW.base id hid)
      rcases hS.go.live id o0 h1 with h2 | ⟨h2, _⟩
      · exact .inl h2
      · omega
    · exact .inr ⟨by omega, hW.old id o ho⟩
  · intro t
    show Rep _ (tm'.getD t .junk) _
    rw [List.getD_eq_getElem?_getD]
    cases h1 : tm'[t]? with
    | none => exact .junk
    | some y =>
      have ht := (List.getElem?_eq_some_iff.1 h1).1
      have h2 := hS.tm t
      rw [List.getD_eq_getElem?_getD] at h2
      have h3 : s.tm[t]? = some (s.tm[t]'(by omega)) := by simp
      rw [h3] at h2
      exact wv_rep hS.inv hv (hw t _ y h3 h1) h2
  · intro id hid hm
    exact absurd hm (hfull id hid)

/-- Rows come to be shared. -/
theorem SR.share {c00 : Ctx} {σ00 : Store} (hI00 : Inv σ00 c00 base) (hfull : ∀ id, id < σ00.clock → c00.m id ≠ none) {s : FS} {a : Act} (hS : SR base c00 σ00 s c a) (ids : List Nat) :
    ∃ c', c'.w = c.w ∧ SR base c00 σ00 ⟨s.tm, shareAll s.σ ids, omin s.low (cut s.c0 (freshL s.σ ids)), s.c0⟩ c' a := by
  obtain ⟨c1, hw, hm, he, hi, hfr, hck⟩ := shareAll_ok hS.inv ids
  refine ⟨c1, hw, hi, hS.ext.trans he, ?_, hS.go.trans (StGo.shareAll _ _), hS.c0, fun t => (hS.tm t).mono he, hS.sz, hS.dfr, fun id hid hm => absurd hm (hfull id hid)⟩
  have h1 := Fr.trans hS.fr hfr hS.go.clock hS.ext hS.inv.core hS.go.live' hI00.dom
  show Fr c00 σ00 (omin s.low (cut s.c0 _)) c1
  rw [hS.c0]
  exact Fr.low h1 hI00.dom (fun id l => omin_cut id l)
end

end Go.Bx

/- Triples: what runs from a state ends so. (Own text.) -/
namespace Go.Bx
set_option linter.unusedVariables false
set_option linter.unusedSimpArgs false
set_option linter.unusedSectionVars false
set_option linter.unusedVariables false
set_option linter.unusedSectionVars false
set_option linter.unusedSimpArgs false

/-- A call under way. -/
structure Under (E : Env) (base : Nat) (c00 : Ctx) (σ00 : Store) : Prop where
  tab : TabOK E.P E.T
  mix : E.P.follows .mixedOrders = true
  inv : Inv σ00 c00 base
  gl : GlOK E c00
  full : ∀ id, id < σ00.clock → c00.m id ≠ none

abbrev Post := Ex → FS → Prop

/-- From what is told of a state, all that is asked of the end. -/
def Tw (base : Nat) (c00 : Ctx) (σ00 : Store) (F : (Exit → Act → World → Prop) → Act → World → Prop) (s : FS) (R : Post) : Prop :=
  ∀ (cx : Ctx) (a : Act), SR base c00 σ00 s cx a → ∀ Q : Exit → Act → World → Prop, (∀ ex s1 a' c', R ex s1 → SR base c00 σ00 s1 c' a' → Q (exq ex) a' c'.w) → F Q a cx.w

/-- The code. -/
def Wp (E : Env) (base : Nat) (c00 : Ctx) (σ00 : Store) (c : Code) (s : FS) (R : Post) : Prop := Tw base c00 σ00 (fun Q a w => c.wp E.P Q a w) s R
/-- From a loop's head. -/
def WpL (E : Env) (base : Nat) (c00 : Ctx) (σ00 : Store) (b : Code) (s : FS) (R : Post) : Prop := Tw base c00 σ00 (fun Q a w => From E.P (.inLoop b) b Q a w) s R
/-- From a place within a scope. -/
def WpS (E : Env) (base : Nat) (c00 : Ctx) (σ00 : Store) (b rest : Code) (s : FS) (R : Post) : Prop := Tw base c00 σ00 (fun Q a w => From E.P (.inScope b) rest Q a w) s R

section
variable {E : Env} {base : Nat} {c00 : Ctx} {σ00 : Store} {s : FS} {R R' : Post} {F : (Exit → Act → World → Prop) → Act → World → Prop}

theorem Tw.mono (h : Tw base c00 σ00 F s R) (k : ∀ ex s1, R ex s1 → R' ex s1) : Tw base c00 σ00 F s R' :=
  fun cx a hS Q hQ => h cx a hS Q fun ex s1 a' c' hr hs => hQ ex s1 a' c' (k ex s1 hr) hs

theorem Tw.weak (hU : Under E base c00 σ00) {ρ : Nat → Option Nat} {vt : Nat → Bool} {tm' : Cs} {σ' : Store} (hv : ∀ a i, ρ a = some i → vt a = false) (hW : WS s.σ σ' ρ vt σ00.clock) (htm : WVs s.σ ρ vt s.tm tm')
    (h : Tw base c00 σ00 F ⟨tm', σ', s.low, s.c0⟩ R) : Tw base c00 σ00 F s R := fun cx a hS Q hQ => by
  have := h _ a (hS.weak hU.inv hU.full hv hW htm) Q hQ
  exact this

theorem Tw.share (hU : Under E base c00 σ00) (ids : List Nat) (h : Tw base c00 σ00 F ⟨s.tm, shareAll s.σ ids, omin s.low (cut s.c0 (freshL s.σ ids)), s.c0⟩ R) : Tw base c00 σ00 F s R := fun cx a hS Q hQ => by
  obtain ⟨c', hw, hS'⟩ := hS.share hU.inv hU.full ids
  rw [← hw]; exact h c' a hS' Q hQ

/-- What comes behind. -/
def Then (E : Env) (base : Nat) (c00 : Ctx) (σ00 : Store) (b : Code) (R : Post) : Post
  | .nrm, s => Wp E base c00 σ00 b s R
  | ex, s => R ex s
def InBlk (id : Nat) (R : Post) : Post
  | .exit id', s => if id' = id then R .nrm s else R (.exit id') s
  | ex, s => R ex s
def Again (E : Env) (base : Nat) (c00 : Ctx) (σ00 : Store) (b : Code) (R : Post) : Post
  | .nrm, s => WpL E base c00 σ00 b s R
  | ex, s => R ex s
def Jump (E : Env) (base : Nat) (c00 : Ctx) (σ00 : Store) (b : Code) (R : Post) : Post
  | .goto l, s => match findLabel b l with
    | some rest => WpS E base c00 σ00 b rest s R
    | none => R (.goto l) s
  | ex, s => R ex s

theorem Wp.skip (h : R .nrm s) : Wp E base c00 σ00 .skip s R := fun cx a hS Q hQ => wp_skip (hQ .nrm s a cx h hS)
theorem Wp.label {l : Nat} (h : R .nrm s) : Wp E base c00 σ00 (.label l) s R := fun cx a hS Q hQ => wp_label (hQ .nrm s a cx h hS)
theorem Wp.exit {id : Nat} (h : R (.exit id) s) : Wp E base c00 σ00 (.exit id) s R := fun cx a hS Q hQ => wp_exit (hQ (.exit id) s a cx h hS)
theorem Wp.goto {l : Nat} (h : R (.goto l) s) : Wp E base c00 σ00 (.goto l) s R := fun cx a hS Q hQ => wp_goto (hQ (.goto l) s a cx h hS)
theorem Wp.ret (h : R .ret s) : Wp E base c00 σ00 .ret s R := fun cx a hS Q hQ => wp_ret (hQ .ret s a cx h hS)

theorem Wp.seq {x y : Code} (h : Wp E base c00 σ00 x s (Then E base c00 σ00 y R)) : Wp E base c00 σ00 (.seq x y) s R := fun cx a hS Q hQ =>
  wp_seq (h cx a hS _ fun ex s1 a' c' hr hs => by
    cases ex with
    | nrm => exact hr c' a' hs Q hQ
    | _ => exact hQ _ s1 a' c' hr hs)

theorem Wp.region (hU : Under E base c00 σ00) {ci : CI} (hci : CIOK E base ci) {id : Nat} {ops : Array Oper} {d : Bool} {s1 : FS} (h : evRegion E ci ops d s = some s1) (k : R .nrm s1) : Wp E base c00 σ00 (.region id ops d) s R := fun cx a hS Q hQ =>
  region_ok hU.tab hci hU.inv hU.gl hU.mix hS h fun a' c' hs => hQ .nrm s1 a' c' k hs

theorem Wp.cond (hU : Under E base c00 σ00) {q : Operand} {x y : Code} {t : Bool} (ht : evOp E.gl s.tm q = .v (.bool t)) (h1 : t = true → Wp E base c00 σ00 x s R) (h2 : t = false → Wp E base c00 σ00 y s R) : Wp E base c00 σ00 (.cond q x y) s R := fun cx a hS Q hQ => by
  have hr := evOp_reps (E := E) (hU.gl.mono hS.ext) (x := q) (tm := s.tm) (a := a) (fun t _ => hS.tm t)
  rw [ht] at hr
  have hv : a.eval q = .bool t := by
    generalize a.eval q = u at hr
    cases hr; rfl
  refine wp_cond hv ?_
  cases t with
  | true => exact h1 rfl cx a hS Q hQ
  | false => exact h2 rfl cx a hS Q hQ

theorem Wp.block {id : Nat} {b : Code} (h : Wp E base c00 σ00 b s (InBlk id R)) : Wp E base c00 σ00 (.block id b) s R := fun cx a hS Q hQ =>
  wp_block (h cx a hS _ fun ex s1 a' c' hr hs => by
    cases ex with
    | exit id' =>
      simp only [exq, Exit.inBlock, InBlk] at hr ⊢
      by_cases hid : id' = id
      · rw [if_pos hid] at hr ⊢; exact hQ .nrm s1 a' c' hr hs
      · rw [if_neg hid] at hr ⊢; exact hQ _ s1 a' c' hr hs
    | _ => exact hQ _ s1 a' c' hr hs)

theorem Wp.loop {b : Code} (h : WpL E base c00 σ00 b s R) : Wp E base c00 σ00 (.loop b) s R := fun cx a hS Q hQ => wp_of_loop (h cx a hS Q hQ)

theorem WpL.step {b : Code} (h : Wp E base c00 σ00 b s (Again E base c00 σ00 b R)) : WpL E base c00 σ00 b s R := fun cx a hS Q hQ => by
  have hwp : b.wp E.P (Exit.then (From E.P (.inLoop b) b Q) Q) a cx.w := by
    refine h cx a hS _ fun ex s1 a' c' hr hs => ?_
    cases ex with
    | nrm => exact hr c' a' hs Q hQ
    | _ => exact hQ _ s1 a' c' hr hs
  intro fr k cs
  obtain ⟨e, a₁, w₁, hq, harr⟩ := hwp fr (.inLoop b :: k) cs
  cases e with
  | normal =>
    obtain ⟨e₂, a₂, w₂, hq₂, harr₂⟩ := hq fr k cs
    exact ⟨e₂, a₂, w₂, hq₂, .of_steps (Steps.trans harr (.one step_inLoop)) harr₂⟩
  | exit id => exact ⟨_, a₁, w₁, hq, .pass (x := .inLoop b) rfl (fun _ _ => .inl (by simp)) harr⟩
  | goto l => exact ⟨_, a₁, w₁, hq, .pass (x := .inLoop b) rfl (fun _ _ => .inl (by simp)) harr⟩
  | ret => exact ⟨_, a₁, w₁, hq, .pass (x := .inLoop b) rfl (fun _ _ => .inl (by simp)) harr⟩
  | panic ch => exact ⟨_, a₁, w₁, hq, .pass (x := .inLoop b) rfl (fun _ _ => .inl (by simp)) harr⟩
  | outgrown => exact ⟨_, a₁, w₁, hq, .pass (x := .inLoop b) rfl (fun _ _ => .inl (by simp)) harr⟩

theorem Wp.scope {b : Code} (h : WpS E base c00 σ00 b b s R) : Wp E base c00 σ00 (.scope b) s R := fun cx a hS Q hQ => wp_of_scope (h cx a hS Q hQ)
theorem WpS.step {b rest : Code} (h : Wp E base c00 σ00 rest s (Jump E base c00 σ00 b R)) : WpS E base c00 σ00 b rest s R := fun cx a hS Q hQ =>
  scope_from (h cx a hS _ fun ex s1 a' c' hr hs => by
    cases ex with
    | goto l =>
      simp only [Jump] at hr
      simp only [exq, Exit.jumps]
      cases hl : findLabel b l with
      | none => rw [hl] at hr; exact hQ _ s1 a' c' hr hs
      | some rest' => rw [hl] at hr; exact hr c' a' hs Q hQ
    | _ => exact hQ _ s1 a' c' hr hs)
end

/-! ### calls -/

/-- A call that leaves every elder object as it is, whatever is about it. -/
def PureOK (E : Env) (f : FuncId) (args : Cs) (r : AV) : Prop := ∀ (base : Nat) (σ : Store), CallOK E base f args σ r σ none

def resOK (r : AV) : Bool := match r with
  | .tup vs => vs.all fun v => (match v with
    | .tup _ => false
    | _ => true) && (cells v).all closed
  | x => (cells x).all closed

def Ctx.none (c : Ctx) : Ctx := { c with m := fun _ => .none }

theorem none_inv {σ : Store} {c : Ctx} {base : Nat} (hI : Inv σ c base) : Inv nilStore c.none base where
  core := {
    obj := fun _ _ _ h => (by cases h)
    virt := fun _ _ h => (by cases h)
    apart := fun _ _ _ _ _ _ h => (by cases h)
    inn := hI.core.inn
    free := fun _ _ _ h => (by cases h)
    base_le := hI.core.base_le }
  dom := fun _ _ h => (by cases h)
  old := fun _ _ h => (by cases h)

/-- Two stores beside each other. -/
theorem inv_union {σ τ : Store} {c c1 : Ctx} {base : Nat} (hI : Inv σ c base) (h1 : Inv τ c1 base) (e : Ext c.none c1) (hf : Fr c.none nilStore none c1) (hlow : ∀ id, id < σ.clock → c1.m id = none) (hcl : σ.clock ≤ τ.clock) {υ : Store}
    (hυc : υ.clock = τ.clock) (hυ : ∀ id, υ.ob id = if id < σ.clock then σ.ob id else τ.ob id) :
    ∃ c', c'.w = c1.w ∧ Ext c c' ∧ Ext c1 c' ∧ Inv υ c' base ∧ Fr c σ none c' := by
  have hblk : ∀ b, b < c.w.heap.size → c1.w.heap[b]? = c.w.heap[b]? := fun b hb => hf.block b hb (fun _ _ _ h => by cases h)
  have hsn : ∀ a, c1.S a → c.S a ∨ c.w.heap.size ≤ a.block := fun a ha => by
    rcases hf.snew a ha with h | h | ⟨_, _, _, h, _⟩
    · exact .inl h
    · exact .inr h
    · cases h
  have hbn : ∀ id L, c1.m id = some (.at L) → c.w.heap.size ≤ L.b := fun id L hm => by
    rcases hf.bnew id L hm (by simp [Ctx.none]) with h | ⟨_, _, _, h, _⟩
    · exact h
    · cases h
  have e1 : Ext c { w := c1.w, S := c1.S, m := fun id => if id < σ.clock then c.m id else c1.m id } :=
    ⟨e.S, e.cell, fun id l hl => by simp only; rw [if_pos (hI.dom id l hl)]; exact hl, e.size, e.os, e.tape, e.output⟩
  have e2 : Ext c1 { w := c1.w, S := c1.S, m := fun id => if id < σ.clock then c.m id else c1.m id } :=
    ⟨fun _ h => h, fun _ _ => rfl, fun id l hl => by
      simp only; rw [if_neg (fun hlt => by rw [hlow id hlt] at hl; cases hl)]; exact hl, Nat.le_refl _, rfl, rfl, rfl⟩
  refine ⟨{ w := c1.w, S := c1.S, m := fun id => if id < σ.clock then c.m id else c1.m id }, rfl, e1, e2, ⟨⟨?_, ?_, ?_, h1.core.inn, ?_, Nat.le_trans hI.core.base_le e.size⟩, ?_, ?_⟩, ?_⟩
  · intro id o L ho hm
    rw [hυ] at ho; simp only at hm
    split at ho
    · rename_i hid; rw [if_pos hid] at hm
      exact (hI.core.obj id o L ho hm).mono e1 (hblk _ (hI.core.b_lt ho hm))
    · rename_i hid; rw [if_neg hid] at hm
      exact (h1.core.obj id o L ho hm).mono e2 rfl
  · intro id o ho hm
    rw [hυ] at ho; simp only at hm
    split at ho
    · rename_i hid; rw [if_pos hid] at hm; exact hI.core.virt id o ho hm
    · rename_i hid; rw [if_neg hid] at hm; exact h1.core.virt id o ho hm
  · intro id id' o o' L L' ho ho' hm hm' hne
    rw [hυ] at ho ho'; simp only at hm hm'
    split at ho
    · rename_i hid; rw [if_pos hid] at hm
      split at ho'
      · rename_i hid'; rw [if_pos hid'] at hm'; exact hI.core.apart id id' o o' L L' ho ho' hm hm' hne
      · rename_i hid'; rw [if_neg hid'] at hm'
        have := hI.core.b_lt ho hm; have := hbn _ _ hm'; omega
    · rename_i hid; rw [if_neg hid] at hm
      split at ho'
      · rename_i hid'; rw [if_pos hid'] at hm'
        have := hI.core.b_lt ho' hm'; have := hbn _ _ hm; omega
      · rename_i hid'; rw [if_neg hid'] at hm'; exact h1.core.apart id id' o o' L L' ho ho' hm hm' hne
  · intro id o L ho hm a ha hb
    rw [hυ] at ho; simp only at hm
    split at ho
    · rename_i hid; rw [if_pos hid] at hm
      rcases hsn a ha with h | h
      · exact hI.core.free id o L ho hm a h hb
      · have := hI.core.b_lt ho hm; omega
    · rename_i hid; rw [if_neg hid] at hm; exact h1.core.free id o L ho hm a ha hb
  · intro id l hm
    simp only at hm
    rw [hυc]
    split at hm
    · rename_i hid; exact Nat.lt_of_lt_of_le hid hcl
    · exact h1.dom id l hm
  · intro id o ho
    rw [hυ] at ho; rw [hυc]
    split at ho
    · rename_i hid; exact Nat.lt_of_lt_of_le hid hcl
    · exact h1.old id o ho
  · refine ⟨fun b hb _ => hblk b hb, fun id l hl => ?_, fun id L hl hn => ?_, fun a ha => ?_⟩
    · simp only at hl
      split at hl
      · exact .inl hl
      · right; omega
    · simp only at hl
      split at hl
      · exact absurd hl hn
      · exact .inl (hbn id L hl)
    · rcases hsn a ha with h | h
      · exact .inl h
      · exact .inr (.inl h)

/-! ### results, in a store of their own and beside others -/
def shr (k : Nat) : Nat → Option Nat := fun a => if k ≤ a then some (a - k) else none

structure Beside (σ0 σ τ : Store) : Prop where
  clock : σ.clock = τ.clock + σ0.clock
  ob : ∀ id, σ.ob id = if id < σ0.clock then σ0.ob id else τ.ob (id - σ0.clock)

theorem Beside.new {σ0 σ τ : Store} (h : Beside σ0 σ τ) (o : Obj) : Beside σ0 (σ.new o) (τ.new o) :=
  ⟨by simp [Store.new, h.clock]; omega, fun id => by
    simp only [Store.new, h.ob, h.clock]
    by_cases h1 : id < σ0.clock
    · rw [if_neg (by omega)]; simp [h1]
    · by_cases h2 : id = τ.clock + σ0.clock
      · subst h2; rw [if_pos rfl, if_neg h1, if_pos (by omega)]
      · rw [if_neg h2, if_neg h1, if_neg h1, if_neg (by omega)]⟩

theorem beside1 {σ0 σ τ : Store} (h : Beside σ0 σ τ) {x : AV} (hx : closed x = true) (ρσ : Store) :
    WV ρσ (shr σ0.clock) (fun _ => false) (import1 τ x).1 (import1 σ x).1 ∧ Beside σ0 (import1 σ x).2 (import1 τ x).2 := by
  unfold import1
  split
  · exact ⟨.row (by simp [shr, h.clock]), h.new _⟩
  · exact ⟨.keep hx, h⟩

theorem besideL {σ0 : Store} (ρσ : Store) : ∀ (xs : Cs) {σ τ : Store}, Beside σ0 σ τ → xs.all closed = true →
    WVs ρσ (shr σ0.clock) (fun _ => false) (importL τ xs).1 (importL σ xs).1 ∧ Beside σ0 (importL σ xs).2 (importL τ xs).2
  | [], σ, τ, h, _ => ⟨.nil, h⟩
  | x :: xs, σ, τ, h, hx => by
    simp only [List.all_cons, Bool.and_eq_true] at hx
    have h1 := beside1 h hx.1 ρσ
    have h2 := besideL ρσ xs h1.2 hx.2
    exact ⟨.cons h1.1 h2.1, h2.2⟩

theorem beside2 {σ0 σ τ : Store} (h : Beside σ0 σ τ) {x : AV} (hx : (cells x).all closed = true) (ρσ : Store) :
    WV ρσ (shr σ0.clock) (fun _ => false) (import2 τ x).1 (import2 σ x).1 ∧ Beside σ0 (import2 σ x).2 (import2 τ x).2 := by
  unfold import2
  split
  · have := besideL ρσ _ h (by simpa [cells] using hx)
    exact ⟨this.1.aggW, this.2⟩
  · rename_i hne
    refine beside1 h ?_ ρσ
    cases x with
    | agg cs => exact absurd rfl (hne cs)
    | _ => simpa [cells] using hx

theorem beside2L {σ0 : Store} (ρσ : Store) : ∀ (xs : Cs) {σ τ : Store}, Beside σ0 σ τ → (xs.all fun v => (cells v).all closed) = true →
    WVs ρσ (shr σ0.clock) (fun _ => false) (import2L τ xs).1 (import2L σ xs).1 ∧ Beside σ0 (import2L σ xs).2 (import2L τ xs).2
  | [], σ, τ, h, _ => ⟨.nil, h⟩
  | x :: xs, σ, τ, h, hx => by
    simp only [List.all_cons, Bool.and_eq_true] at hx
    have h1 := beside2 h hx.1 ρσ
    have h2 := beside2L ρσ xs h1.2 hx.2
    exact ⟨.cons h1.1 h2.1, h2.2⟩

theorem besideAV {σ0 σ τ : Store} (h : Beside σ0 σ τ) {r : AV} (hr : resOK r = true) (ρσ : Store) :
    WV ρσ (shr σ0.clock) (fun _ => false) (importAV τ r).1 (importAV σ r).1 ∧ Beside σ0 (importAV σ r).2 (importAV τ r).2 := by
  unfold importAV
  split
  · rename_i vs
    have := beside2L ρσ vs h (by
      simp only [resOK] at hr
      rw [List.all_eq_true] at hr ⊢
      intro v hv; have := hr v hv; simp only [Bool.and_eq_true] at this; exact this.2)
    exact ⟨this.1.tupW, this.2⟩
  · rename_i hne
    refine beside2 h ?_ ρσ
    cases r with
    | tup vs => exact absurd rfl (hne vs)
    | _ => simpa [resOK] using hr

theorem import_flat1 {σ : Store} {x : AV} (h : ∀ id o, σ.ob id = some o → o.flat = true) : ∀ id o, (import1 σ x).2.ob id = some o → o.flat = true := by
  unfold import1
  split
  · intro id o ho
    simp only [Store.new] at ho
    split at ho
    · cases ho; rfl
    · exact h id o ho
  · exact h
theorem import_flatL : ∀ (xs : Cs) {σ : Store}, (∀ id o, σ.ob id = some o → o.flat = true) → ∀ id o, (importL σ xs).2.ob id = some o → o.flat = true
  | [], σ, h => h
  | x :: xs, σ, h => import_flatL xs (import_flat1 h)
theorem import_flat2 {σ : Store} {x : AV} (h : ∀ id o, σ.ob id = some o → o.flat = true) : ∀ id o, (import2 σ x).2.ob id = some o → o.flat = true := by
  unfold import2
  split
  · exact import_flatL _ h
  · exact import_flat1 h
theorem import_flat2L : ∀ (xs : Cs) {σ : Store}, (∀ id o, σ.ob id = some o → o.flat = true) → ∀ id o, (import2L σ xs).2.ob id = some o → o.flat = true
  | [], σ, h => h
  | x :: xs, σ, h => import_flat2L xs (import_flat2 h)
theorem import_flat {σ : Store} {x : AV} (h : ∀ id o, σ.ob id = some o → o.flat = true) : ∀ id o, (importAV σ x).2.ob id = some o → o.flat = true := by
  unfold importAV
  split
  · exact import_flat2L _ h
  · exact import_flat2 h

theorem pure_end {base : Nat} {c : Ctx} {σ : Store} (hI : Inv σ c base) {r : AV} (hr : resOK r = true) {e : Ending} {w : World} (h : EndOf base c.none nilStore r nilStore none e w) : EndOf base c σ r σ none e w := by
  obtain ⟨v, c1, rfl, rfl, he, hi, hrep, hfr⟩ := h
  have hb0 : Beside σ σ nilStore := ⟨by simp [nilStore], fun id => by
    split
    · rfl
    · rename_i hid
      cases ho : σ.ob id with
      | none => rfl
      | some o => have := hI.old id o ho; omega⟩
  obtain ⟨hwv, hb⟩ := besideAV hb0 hr (importAV nilStore r).2
  have hfl : ∀ id o, (importAV nilStore r).2.ob id = some o → o.flat = true := import_flat (fun id o h => by cases h)
  have hv : ∀ a i, shr σ.clock a = some i → (fun _ : Nat => false) a = false := fun _ _ _ => rfl
  have hws : WS (importAV nilStore r).2 ⟨(importAV σ r).2.clock, fun id => if σ.clock ≤ id then (importAV nilStore r).2.ob (id - σ.clock) else none⟩ (shr σ.clock) (fun _ => false) 0 := by
    refine ⟨Nat.zero_le _, fun a h => by omega, fun _ _ _ _ => Nat.zero_le _, fun a i h hi => ?_, fun a b i h h' => ?_, fun a h => by simp at h, fun a o ho => ?_, fun a o ho => ⟨fun h => by simp at h, fun i h => ?_⟩⟩
    · simp only [shr] at h
      split at h
      · have e : a - σ.clock = i := by simpa using h
        have hb' := hb.clock
        simp only
        omega
      · cases h
    · simp only [shr] at h h'
      split at h
      · split at h'
        · simp only [Option.some.injEq] at h h'; omega
        · cases h'
      · cases h
    · simp only at ho
      split at ho
      · have h1 := hi.old _ _ ho; have h2 := hb.clock; show a < (importAV σ r).2.clock; omega
      · cases ho
    · simp only [shr] at h
      split at h
      · rename_i hle; simp only [Option.some.injEq] at h; subst h
        simp only [hle, if_true] at ho
        refine ⟨o, ho, ?_⟩
        have := hfl _ _ ho
        obtain ⟨sz, sh, fl, es⟩ := o
        simp only at this; subst this
        exact .same _ _ _
      · cases h
  have hi' : Inv _ (c1.ren (shr σ.clock) fun _ => false) base := ws_inv hi hv hws
  have hrep' : Rep (c1.ren (shr σ.clock) fun _ => false) (importAV σ r).1 v := wv_rep hi hv hwv hrep
  have hme : ∀ a l, (c1.ren (shr σ.clock) fun _ => false).m a = some l → σ.clock ≤ a ∧ c1.m (a - σ.clock) = some l := fun a l h => by
    rcases ren_m h with ⟨h1, _⟩ | ⟨_, i, h1, h2⟩
    · simp at h1
    · simp only [shr] at h1
      split at h1
      · rename_i hle; simp only [Option.some.injEq] at h1; subst h1; exact ⟨hle, h2⟩
      · cases h1
  have he' : Ext c.none (c1.ren (shr σ.clock) fun _ => false) := ⟨he.S, he.cell, fun id l h => (by cases h), he.size, he.os, he.tape, he.output⟩
  have hf' : Fr c.none nilStore none (c1.ren (shr σ.clock) fun _ => false) := ⟨hfr.block, fun id l h => .inr (Nat.zero_le _), fun id L h _ => (by
    obtain ⟨_, h2⟩ := hme id _ h
    rcases hfr.bnew _ L h2 (by simp [Ctx.none]) with h | ⟨_, _, _, h, _⟩
    · exact .inl h
    · cases h), hfr.snew⟩
  obtain ⟨c', q1, q2, q3, q4, q5⟩ := inv_union (σ := σ) (υ := (importAV σ r).2) hI hi' he' hf' (fun id hid => by
    cases hm : (c1.ren (shr σ.clock) fun _ => false).m id with
    | none => rfl
    | some l => have := (hme id l hm).1; omega) (by rw [hb.clock]; simp) rfl (fun id => by
    rw [hb.ob]
    split
    · rfl
    · rename_i hid; simp only [show σ.clock ≤ id by omega, if_true])
  exact ⟨v, c', rfl, q1, q2, q4, hrep'.mono q3, q5⟩

section
variable {E : Env} {base : Nat} {c00 : Ctx} {σ00 : Store} {s : FS} {R : Post} {b : Code}
/-- What is told by the second is told by the first. -/
def Wk (base : Nat) (c00 : Ctx) (σ00 : Store) (s1 s2 : FS) : Prop := ∀ cx a, SR base c00 σ00 s1 cx a → ∃ c', c'.w = cx.w ∧ SR base c00 σ00 s2 c' a
theorem Wk.refl : Wk base c00 σ00 s s := fun cx a h => ⟨cx, rfl, h⟩
theorem Wk.trans {s1 s2 s3 : FS} (h : Wk base c00 σ00 s1 s2) (k : Wk base c00 σ00 s2 s3) : Wk base c00 σ00 s1 s3 := fun cx a hS => by
  obtain ⟨c1, h1, h2⟩ := h cx a hS
  obtain ⟨c2, h3, h4⟩ := k c1 a h2
  exact ⟨c2, h3.trans h1, h4⟩
theorem Wk.tw {F : (Exit → Act → World → Prop) → Act → World → Prop} {s1 s2 : FS} (h : Wk base c00 σ00 s1 s2) (k : Tw base c00 σ00 F s2 R) : Tw base c00 σ00 F s1 R := fun cx a hS Q hQ => by
  obtain ⟨c1, h1, h2⟩ := h cx a hS
  rw [← h1]; exact k c1 a h2 Q hQ
end

/-- A state from which the call returns this (told with less, maybe). -/
def Rt (E : Env) (base : Nat) (c00 : Ctx) (fn : Func) (r : AV) (s : FS) : Prop := ∃ s2, Wk base c00 nilStore s s2 ∧ evReturn E.T nilStore fn s2 = some (r, nilStore, none)

theorem moveCells {c c' : Ctx} (hw : c'.w = c.w) (hS : c'.S = c.S) {x : AV} {u : Value} (h : Rep c x u) (hp : (cells x).all closed = true) : Rep c' x u := by
  cases x with
  | agg cs =>
    cases h with
    | agg hl hh => exact .agg hl fun j x u h1 h2 => Rep.moveC hw hS (hh j x u h1 h2) (List.all_eq_true.1 hp x (List.mem_of_getElem? h1))
  | _ => exact Rep.moveC hw hS h (by simpa [cells] using hp)

/-- A FUNCTION'S CONTRACT, from its body's run in a store of its own. -/
theorem pure_of_wp {E : Env} (hT : TabOK E.P E.T) (hmix : E.P.follows .mixedOrders = true) {f : FuncId} {fn : Func} {body : Code} {nt : Nat} {args : Cs} {r : AV} (hf : E.P.funcs[f]? = some fn) (hb : fn.body = some body) (hn : fn.ntmps = nt)
    (hname : fn.name ≠ "runtime.NumGoroutine") (ha : (args.all fun x => (cells x).all closed) = true) (hr : resOK r = true) (hgl : ∀ g, closed (E.gl g) = true)
    (h : ∀ (base : Nat) (c00 : Ctx), Under E base c00 nilStore → Wp E base c00 nilStore body ⟨args ++ List.replicate (nt - args.length) (.v undef), nilStore, none, 0⟩ (fun ex s => (ex = .ret ∨ ex = .nrm) ∧ Rt E base c00 fn r s)) :
    PureOK E f args r := by
  subst hn
  intro base σ
  refine call_hand hf hb hname fun c us hI hG hus => ?_
  have hus' : Reps c.none args us := ⟨hus.1, fun j x u h1 h2 => moveCells (c := c) (c' := c.none) rfl rfl (hus.2 j x u h1 h2) (List.all_eq_true.1 ha x (List.mem_of_getElem? h1))⟩
  have hU : Under E base c.none nilStore := ⟨hT, hmix, none_inv hI, fun g => Rep.moveC (c := c) (c' := c.none) rfl rfl (hG g) (hgl g), fun id hid => by simp [nilStore] at hid⟩
  have hst := start_SR (none_inv hI) hus' fn.ntmps
  have := h base c.none hU c.none _ hst (bodyPost E.P fn (EndOf base c σ r σ none)) (fun ex s1 a' c' hr' hs => by
    obtain ⟨hex, s2, hk, hret⟩ := hr'
    obtain ⟨c'', hw, hs2⟩ := hk _ _ hs
    have hp := ret_post hT (none_inv hI) hs2 hex hret
    rw [← hw]
    rcases hex with rfl | rfl
    · exact ⟨hp.1, hp.2.choose, hp.2.choose_spec.1, pure_end hI hr hp.2.choose_spec.2⟩
    · exact ⟨hp.1, hp.2.choose, hp.2.choose_spec.1, pure_end hI hr hp.2.choose_spec.2⟩)
  exact this

end Go.Bx

/- For the printed texts: exits, stores as lists, the words of the printed functions. (Own text.) -/
namespace Go.Bx
set_option linter.unusedVariables false
set_option linter.unusedSimpArgs false
set_option linter.unusedSectionVars false
set_option linter.unusedVariables false
set_option linter.unusedSectionVars false
set_option linter.unusedSimpArgs false

/-! ### exits -/
section
variable {E : Env} {base : Nat} {c00 : Ctx} {σ00 : Store} {s : FS} {R : Post} {b : Code} {id j : Nat}
theorem thenN (h : Wp E base c00 σ00 b s R) : Then E base c00 σ00 b R .nrm s := h
theorem thenE (h : R (.exit j) s) : Then E base c00 σ00 b R (.exit j) s := h
theorem thenG (h : R (.goto j) s) : Then E base c00 σ00 b R (.goto j) s := h
theorem thenR (h : R .ret s) : Then E base c00 σ00 b R .ret s := h
theorem blkN (h : R .nrm s) : InBlk id R .nrm s := h
theorem blkE (h : R .nrm s) : InBlk id R (.exit id) s := by simp only [InBlk, if_true]; exact h
theorem blkX (hj : j ≠ id) (h : R (.exit j) s) : InBlk id R (.exit j) s := by simp only [InBlk, if_neg hj]; exact h
theorem blkG (h : R (.goto j) s) : InBlk id R (.goto j) s := h
theorem blkR (h : R .ret s) : InBlk id R .ret s := h
theorem againN (h : WpL E base c00 σ00 b s R) : Again E base c00 σ00 b R .nrm s := h
theorem againE (h : R (.exit j) s) : Again E base c00 σ00 b R (.exit j) s := h
theorem againG (h : R (.goto j) s) : Again E base c00 σ00 b R (.goto j) s := h
theorem againR (h : R .ret s) : Again E base c00 σ00 b R .ret s := h
theorem jumpN (h : R .nrm s) : Jump E base c00 σ00 b R .nrm s := h
theorem jumpE (h : R (.exit j) s) : Jump E base c00 σ00 b R (.exit j) s := h
theorem jumpR (h : R .ret s) : Jump E base c00 σ00 b R .ret s := h
theorem jumpG {rest : Code} (hl : findLabel b j = some rest) (h : WpS E base c00 σ00 b rest s R) : Jump E base c00 σ00 b R (.goto j) s := by simp only [Jump, hl]; exact h

theorem Wk.wp {s1 s2 : FS} (h : Wk base c00 σ00 s1 s2) (k : Wp E base c00 σ00 b s2 R) : Wp E base c00 σ00 b s1 R := Wk.tw h k
theorem Wk.wpL {s1 s2 : FS} (h : Wk base c00 σ00 s1 s2) (k : WpL E base c00 σ00 b s2 R) : WpL E base c00 σ00 b s1 R := Wk.tw h k
theorem Wk.wpS {rest : Code} {s1 s2 : FS} (h : Wk base c00 σ00 s1 s2) (k : WpS E base c00 σ00 b rest s2 R) : WpS E base c00 σ00 b rest s1 R := Wk.tw h k
theorem Wk.share (hU : Under E base c00 σ00) {s2 : FS} (ids : List Nat) (h : Wk base c00 σ00 ⟨s.tm, shareAll s.σ ids, omin s.low (cut s.c0 (freshL s.σ ids)), s.c0⟩ s2) : Wk base c00 σ00 s s2 := fun cx a hS => by
  obtain ⟨c', hw, hS'⟩ := hS.share hU.inv hU.full ids
  obtain ⟨c2, h1, h2⟩ := h c' a hS'
  exact ⟨c2, h1.trans hw, h2⟩

theorem Wp.seq1 {x y : Code} {JP : Post} (h : Wp E base c00 σ00 x s JP) (k : ∀ ex s1, JP ex s1 → Then E base c00 σ00 y R ex s1) : Wp E base c00 σ00 (.seq x y) s R := .seq (Tw.mono h k)
theorem Wp.seq2 {x y z : Code} {JP : Post} (h : Wp E base c00 σ00 x s (Then E base c00 σ00 y JP)) (k : ∀ ex s1, JP ex s1 → Then E base c00 σ00 z R ex s1) : Wp E base c00 σ00 (.seq x (.seq y z)) s R := by
  refine .seq (Tw.mono h fun ex s1 hp => ?_)
  cases ex with
  | nrm => exact Wp.seq1 (y := z) hp k
  | exit j => exact k _ _ hp
  | goto j => exact k _ _ hp
  | ret => exact k _ _ hp
theorem WpL.stepE {b b' : Code} (hb : b = b') (h : Wp E base c00 σ00 b' s (Again E base c00 σ00 b R)) : WpL E base c00 σ00 b s R := by subst hb; exact .step h
theorem Rt.of {fn : Func} {r : AV} (h : evReturn E.T nilStore fn s = some (r, nilStore, none)) : Rt E base c00 fn r s := ⟨s, Wk.refl, h⟩
theorem Rt.wk {fn : Func} {r : AV} {s2 : FS} (h : Wk base c00 nilStore s s2) (k : Rt E base c00 fn r s2) : Rt E base c00 fn r s := by
  obtain ⟨s3, h1, h2⟩ := k
  exact ⟨s3, h.trans h1, h2⟩

/-- A statement whose ends are joined at a state. -/
theorem Wp.join {x y : Code} (S : FS) (h : Wp E base c00 σ00 x s (fun ex s1 => ex = .nrm ∧ Wk base c00 σ00 s1 S)) (k : Wp E base c00 σ00 y S R) : Wp E base c00 σ00 (.seq x y) s R :=
  .seq (Tw.mono h fun ex s1 hr => by obtain ⟨rfl, hk⟩ := hr; exact hk.wp k)
end

/-! ### stores as lists -/
def St (l : List (Option Obj)) : Store := ⟨l.length, fun i => (l[i]?).getD none⟩
theorem St_nil : nilStore = St [] := by simp [nilStore, St]
theorem St_clock (l : List (Option Obj)) : (St l).clock = l.length := rfl
theorem St_ob (l : List (Option Obj)) (i : Nat) : (St l).ob i = (l[i]?).getD none := rfl
theorem St_new (l : List (Option Obj)) (o : Obj) : (St l).new o = St (l ++ [some o]) := by
  simp only [Store.new, St, List.length_append, List.length_cons, List.length_nil, Store.mk.injEq, true_and]
  funext i
  by_cases h : i = l.length
  · subst h; simp
  · simp only [h, if_false]
    by_cases hi : i < l.length
    · rw [List.getElem?_append_left hi]
    · rw [List.getElem?_eq_none (by omega), List.getElem?_eq_none (by simp; omega)]
theorem St_put (l : List (Option Obj)) (i : Nat) (o : Option Obj) (h : i < l.length) : (St l).put i o = St (l.set i o) := by
  simp only [Store.put, St, List.length_set, Store.mk.injEq, true_and]
  funext j
  by_cases hj : j = i
  · subst hj; simp [h]
  · rw [if_neg hj, List.getElem?_set_ne (by omega)]

theorem all_pl' {α : Type} {c : α → Cs} (h : ∀ x, (c x).all pl = true) (l : List α) : ((l.map c).all fun e => e.all pl) = true := by
  rw [List.all_eq_true]; intro e he; obtain ⟨x, _, rfl⟩ := List.mem_map.1 he; exact h x
theorem leaf_ptr (id i o : Nat) : leaf (.ptr id i o) = true := rfl

/-- The numbers: for each new one the old one, or none: a row without a cell. -/
def rhoOf (L : List (Option Nat)) : Nat → Option Nat := fun a => (L[a]?).getD none
def vtOf (L : List (Option Nat)) : Nat → Bool := fun a => match L[a]? with
  | some none => true
  | _ => false

inductive WSs (σ : Store) (ρ : Nat → Option Nat) (vt : Nat → Bool) : List (Option Nat) → List (Option Obj) → Prop
  | nil : WSs σ ρ vt [] []
  | virt {sz : Nat} {sh fl : Bool} {L : List (Option Nat)} {l : List (Option Obj)} (t : WSs σ ρ vt L l) : WSs σ ρ vt (none :: L) (some ⟨sz, sh, fl, []⟩ :: l)
  | obj {i : Nat} {o o' : Obj} {L : List (Option Nat)} {l : List (Option Obj)} (h : σ.ob i = some o) (w : WO σ ρ vt o o') (t : WSs σ ρ vt L l) : WSs σ ρ vt (some i :: L) (some o' :: l)

theorem WSs.get {σ : Store} {ρ : Nat → Option Nat} {vt : Nat → Bool} {L : List (Option Nat)} {l : List (Option Obj)} (h : WSs σ ρ vt L l) : L.length = l.length ∧ ∀ (a : Nat) o', l[a]? = some (some o') → (L[a]? = some none → o'.es = []) ∧ ∀ i, L[a]? = some (some i) → ∃ o, σ.ob i = some o ∧ WO σ ρ vt o o' := by
  induction h with
  | nil => exact ⟨rfl, fun a o' h => by simp at h⟩
  | virt t ih =>
    refine ⟨by simp [ih.1], fun a o' h => ?_⟩
    cases a with
    | zero => simp at h; subst h; exact ⟨fun _ => rfl, fun i h => by simp at h⟩
    | succ a => simpa using ih.2 a o' (by simpa using h)
  | obj h w t ih =>
    refine ⟨by simp [ih.1], fun a o' h' => ?_⟩
    cases a with
    | zero => simp at h'; subst h'; exact ⟨fun h => by simp at h, fun i hi => by simp at hi; subst hi; exact ⟨_, h, w⟩⟩
    | succ a => simpa using ih.2 a o' (by simpa using h')

/-- To a state with a store as a list. -/
theorem Wk.weak {E : Env} {base : Nat} {c00 : Ctx} {s : FS} (hU : Under E base c00 nilStore) {tm' : Cs} (L : List (Option Nat)) (l : List (Option Obj)) (hd : (L.filterMap id).Nodup)
    (hs : WSs s.σ (rhoOf L) (vtOf L) L l) (htm : WVs s.σ (rhoOf L) (vtOf L) s.tm tm') : Wk base c00 nilStore s ⟨tm', St l, s.low, s.c0⟩ := fun cx a hS => by
  obtain ⟨hlen, hget⟩ := hs.get
  have hv : ∀ a i, rhoOf L a = some i → vtOf L a = false := fun a i h => by
    unfold rhoOf at h; unfold vtOf
    cases hL : L[a]? with
    | none => rfl
    | some x => cases x with
      | none => rw [hL] at h; simp at h
      | some x => rfl
  have hrho : ∀ {a i}, rhoOf L a = some i → L[a]? = some (some i) := fun {a i} h => by
    unfold rhoOf at h
    cases hL : L[a]? with
    | none => rw [hL] at h; simp at h
    | some x => rw [hL] at h; simp at h; rw [h]
  refine ⟨cx.ren (rhoOf L) (vtOf L), rfl, hS.weak hU.inv hU.full hv (σ' := St l) ⟨Nat.zero_le _, fun a h => by simp [nilStore] at h, fun _ _ _ _ => Nat.zero_le _, fun a i h _ => ?_, fun a b i h k => ?_, fun a h => ⟨?_, Nat.zero_le _⟩, fun a o' h => ?_, fun a o' h => ?_⟩ htm⟩
  · have := (List.getElem?_eq_some_iff.1 (hrho h)).1; rw [St_clock]; omega
  · have h1 := hrho h; have h2 := hrho k
    have key : ∀ (L : List (Option Nat)), (L.filterMap id).Nodup → ∀ (a b i : Nat), L[a]? = some (some i) → L[b]? = some (some i) → a = b := by
      intro L
      induction L with
      | nil => intro _ a b i h; simp at h
      | cons x L ih =>
        intro hd a b i h k
        have hd' : (L.filterMap id).Nodup := by
          cases x with
          | none => simpa using hd
          | some x => simp at hd; exact hd.2
        have hin : ∀ c, L[c]? = some (some i) → i ∈ L.filterMap id := fun c hc => List.mem_filterMap.2 ⟨some i, List.mem_of_getElem? hc, rfl⟩
        cases a with
        | zero =>
          cases b with
          | zero => rfl
          | succ b =>
            simp at h k; subst h
            simp at hd
            exact absurd (List.mem_of_getElem? k) (by simpa using hd.1)
        | succ a =>
          cases b with
          | zero =>
            simp at h k; subst k
            simp at hd
            exact absurd (List.mem_of_getElem? h) (by simpa using hd.1)
          | succ b => simp at h k; rw [ih hd' a b i h k]
    exact key L hd a b i h1 h2
  · unfold vtOf at h
    split at h
    · rename_i h1; have := (List.getElem?_eq_some_iff.1 h1).1; rw [St_clock]; omega
    · cases h
  · rw [St_ob] at h
    by_cases ha : a < l.length
    · rw [St_clock]; exact ha
    · rw [List.getElem?_eq_none (by omega)] at h; simp at h
  · rw [St_ob] at h
    have hla : l[a]? = some (some o') := by
      cases hl : l[a]? with
      | none => rw [hl] at h; simp at h
      | some x => rw [hl] at h; simp at h; rw [h]
    obtain ⟨h1, h2⟩ := hget a o' hla
    refine ⟨fun hvt => h1 ?_, fun i hi => h2 i (hrho hi)⟩
    unfold vtOf at hvt
    split at hvt
    · assumption
    · cases hvt

theorem WV.eq {σ : Store} {ρ : Nat → Option Nat} {vt : Nat → Bool} {x y : AV} (h : x = y) (hc : closed x = true) : WV σ ρ vt x y := by subst h; exact .keep hc
theorem WV.row_eq {σ : Store} {ρ : Nat → Option Nat} {vt : Nat → Bool} {id id' sz lo n n' : Nat} (h : ρ id' = some id) (hn : n = n') : WV σ ρ vt (.row id sz lo n) (.row id' sz lo n') := by subst hn; exact .row h
theorem WV.nil_eq {σ : Store} {ρ : Nat → Option Nat} {vt : Nat → Bool} {id' sz lo n : Nat} (h : vt id' = true) (hn : 0 = n) : WV σ ρ vt (.v (.slice none 0 0)) (.row id' sz lo n) := by subst hn; exact .nil h
theorem WO.trunc_eq {σ : Store} {ρ : Nat → Option Nat} {vt : Nat → Bool} {sz : Nat} {es es' : List Cs} (h : ∃ n, es.take n = es') : WO σ ρ vt ⟨sz, false, true, es⟩ ⟨sz, false, true, es'⟩ := by obtain ⟨n, rfl⟩ := h; exact .trunc n _ _
theorem aggKeep {σ : Store} {ρ : Nat → Option Nat} {vt : Nat → Bool} {xs : Cs} (h : xs.all closed = true) : ∀ (j : Nat) x y, xs[j]? = some x → xs[j]? = some y → WV σ ρ vt x y := fun j x y h1 h2 => by
  rw [h1] at h2; cases h2; exact .keep (List.all_eq_true.1 h x (List.mem_of_getElem? h1))
theorem WO.grow {σ : Store} {ρ : Nat → Option Nat} {vt : Nat → Bool} {sz : Nat} {sh fl : Bool} {α : Type} {c : α → Cs} {l : List α} {xs ys es' : List Cs} (hc : ∀ x, (c x).all pl = true) (h : WL σ ρ vt xs ys) (hy : (ys.all fun e => e.all pl) = true) (he : List.map c l ++ ys = es') :
    WO σ ρ vt ⟨sz, sh, fl, List.map c l ++ xs⟩ ⟨sz, sh, true, es'⟩ := by
  subst he
  have hp : ((List.map c l ++ ys).all fun e => e.all pl) = true := by rw [List.all_append, all_pl' hc l, hy]; rfl
  refine .mk (WL.append (WL.refl (all_pl' hc l)) h) ?_ (fun _ => hp)
  rw [List.all_eq_true] at hp ⊢
  intro e he
  have := hp e he
  rw [List.all_eq_true] at this ⊢
  exact fun x hx => leaf_of_pl (this x hx)
theorem WO.same_eq {σ : Store} {ρ : Nat → Option Nat} {vt : Nat → Bool} {sz : Nat} {sh : Bool} {es es' : List Cs} (h : es = es') : WO σ ρ vt ⟨sz, sh, true, es⟩ ⟨sz, sh, true, es'⟩ := by subst h; exact .same _ _ _

/-! ### words of the printed functions -/
abbrev Str := List UInt8
def mkS (l : Str) : ByteArray := ⟨⟨l⟩⟩
def cInt (k : IntKind) (n : Int) : Cs := [.v (.int k n)]
def cBool (b : Bool) : Cs := [.v (.bool b)]
def cStr (s : Str) : Cs := [.v (.string (mkS s))]
def cSl {α : Type} (c : α → Cs) (l : List α) : Cs := [.sl (l.map c)]
/-- A result of its own. -/
def own {α : Type} (sz : Nat) (c : α → Cs) (l : List α) : AV := .own false sz (l.map c)
def view {α : Type} (c : α → Cs) (l : List α) : AV := .sl (l.map c)

def rd {α : Type} (l : List α) (i : Int) : Option α := if 0 ≤ i then l[i.toNat]? else none
theorem rd_some {α : Type} {l : List α} {i : Int} {x : α} (h : rd l i = some x) : 0 ≤ i ∧ i.toNat < l.length ∧ l[i.toNat]? = some x := by
  unfold rd at h
  split at h
  · rename_i hi; exact ⟨hi, (List.getElem?_eq_some_iff.1 h).1, h⟩
  · cases h
theorem rd_of {α : Type} {l : List α} {i : Nat} {x : α} (h : l[i]? = some x) : rd l (i : Int) = some x := by simp [rd, h]
/-- A byte of a text. -/
def bt (s : Str) (i : Int) : Option Int := (rd s i).map fun b => (b.toNat : Int)
theorem bt_some {s : Str} {i : Int} {b : Int} (h : bt s i = some b) : 0 ≤ i ∧ i.toNat < s.length ∧ s[i.toNat]?.map (fun b => (b.toNat : Int)) = some b := by
  unfold bt at h
  rw [Option.map_eq_some_iff] at h
  obtain ⟨x, h1, rfl⟩ := h
  obtain ⟨h2, h3, h4⟩ := rd_some h1
  exact ⟨h2, h3, by rw [h4]; rfl⟩
def mk {α : Type} (by_ : Nat) (n : Int) (x : α) : Option (List α) := if 0 ≤ n ∧ n ≤ 9223372036854775807 ∧ by_ * n ≤ 140737488355328 then some (List.replicate n.toNat x) else none
theorem mk_some {α : Type} {b : Nat} {n : Int} {x : α} {r : List α} (h : mk b n x = some r) : 0 ≤ n ∧ n ≤ 9223372036854775807 ∧ b * n ≤ 140737488355328 ∧ r = List.replicate n.toNat x := by
  unfold mk at h
  split at h
  · rename_i hc; simp only [Option.some.injEq] at h; exact ⟨hc.1, hc.2.1, hc.2.2, h.symm⟩
  · cases h
/-- A piece. -/
def cutL {α : Type} (l : List α) (lo hi : Int) : Option (List α) := if 0 ≤ lo ∧ 0 ≤ hi ∧ lo.toNat ≤ hi.toNat ∧ hi.toNat ≤ l.length then some ((l.take hi.toNat).drop lo.toNat) else none
theorem cutL_some {α : Type} {l : List α} {lo hi : Int} {r : List α} (h : cutL l lo hi = some r) : 0 ≤ lo ∧ 0 ≤ hi ∧ lo.toNat ≤ hi.toNat ∧ hi.toNat ≤ l.length ∧ r = (l.take hi.toNat).drop lo.toNat ∧ r.length = hi.toNat - lo.toNat := by
  unfold cutL at h
  split at h
  · rename_i hc; obtain ⟨h1, h2, h3, h4⟩ := hc; simp only [Option.some.injEq] at h; subst h
    exact ⟨h1, h2, h3, h4, rfl, by simp; omega⟩
  · cases h
/-- One list behind another, as long as there is room. -/
def ap {α : Type} (by_ : Nat) (l m : List α) : Option (List α) := if (l.length + m.length) * by_ ≤ 140737488355328 then some (l ++ m) else none
theorem ap_some {α : Type} {b : Nat} {l m r : List α} (h : ap b l m = some r) : (l.length + m.length) * b ≤ 140737488355328 ∧ r = l ++ m := by
  unfold ap at h
  split at h
  · rename_i hc; simp only [Option.some.injEq] at h; exact ⟨hc, h.symm⟩
  · cases h
theorem ap_of {α : Type} {b : Nat} {l m : List α} (h : (l.length + m.length) * b ≤ 140737488355328) : ap b l m = some (l ++ m) := if_pos h
def setL {α : Type} (l : List α) (i : Int) (x : α) : List α := l.set i.toNat x
inductive Ou (ρ α : Type) where
  | ret (r : ρ)
  | nxt (v : α)

theorem bind_some {α β : Type} {e : Option α} {f : α → Option β} {r : β} (h : (e >>= f) = some r) : ∃ x, e = some x ∧ f x = some r := Option.bind_eq_some_iff.1 h
theorem if_t {α : Type} {t : Bool} {a b : α} (h : t = true) : (if t = true then a else b) = a := if_pos h
theorem if_f {α : Type} {t : Bool} {a b : α} (h : t = false) : (if t = true then a else b) = b := if_neg (by simp [h])

theorem all_len {α : Type} {c : α → Cs} {n : Nat} (h : ∀ x, (c x).length = n) (l : List α) : ((l.map c).all fun e => e.length == n) = true := by simp [List.all_eq_true, h]
theorem all_pl {α : Type} {c : α → Cs} (h : ∀ x, (c x).all pl = true) (l : List α) : ((l.map c).all fun e => e.all pl) = true := by
  rw [List.all_eq_true]; intro e he; obtain ⟨x, _, rfl⟩ := List.mem_map.1 he; exact h x
theorem drop_map {α : Type} (c : α → Cs) (l : List α) (n : Nat) : (l.map c).drop n = (l.drop n).map c := by simp
theorem take_map {α : Type} (c : α → Cs) (l : List α) (n : Nat) : (l.map c).take n = (l.take n).map c := by simp
theorem app_map {α : Type} (c : α → Cs) (l m : List α) : l.map c ++ m.map c = (l ++ m).map c := by simp
theorem get_map {α : Type} (c : α → Cs) (l : List α) (n : Nat) : (l.map c)[n]? = (l[n]?).map c := by simp

/-! ### contracts as a table -/
open Classical in
noncomputable def tbl {α : Type} (F : FuncId) (enc : α → Cs) (pf : α → Option AV) : CI := fun f args σ =>
  if h : ∃ r, f = F ∧ ∃ x, args = enc x ∧ pf x = some r then some (h.choose, σ, none) else none
theorem tbl_eq {α : Type} {F : FuncId} {enc : α → Cs} {pf : α → Option AV} (hinj : ∀ x y, enc x = enc y → x = y) {x : α} {r : AV} (h : pf x = some r) (σ : Store) : tbl F enc pf F (enc x) σ = some (r, σ, none) := by
  have hex : ∃ r, F = F ∧ ∃ y, enc x = enc y ∧ pf y = some r := ⟨r, rfl, x, rfl, h⟩
  unfold tbl
  rw [dif_pos hex]
  generalize hg : hex.choose = q
  have hs := hex.choose_spec
  rw [hg] at hs
  obtain ⟨_, y, h1, h2⟩ := hs
  rw [← hinj x y h1, h] at h2
  simp only [Option.some.injEq] at h2
  rw [← h2]
theorem tbl_ok {α : Type} {E : Env} {base : Nat} {F : FuncId} {enc : α → Cs} {pf : α → Option AV} (h : ∀ x r, pf x = some r → PureOK E F (enc x) r) : CIOK E base (tbl F enc pf) := by
  intro f args σ r σr tl hr
  unfold tbl at hr
  split at hr
  · rename_i hc; cases hr
    generalize hg : hc.choose = q
    have hs := hc.choose_spec
    rw [hg] at hs
    clear hg hc
    obtain ⟨rfl, y, rfl, h3⟩ := hs
    exact h y _ h3 base σ
  · cases hr
theorem no_ok {E : Env} {base : Nat} : CIOK E base (fun _ _ _ => none) := fun _ _ _ _ _ _ h => by cases h
/-- One table ahead of another. -/
def CI.or (F : FuncId) (a b : CI) : CI := fun f args σ => if f = F then a f args σ else b f args σ
theorem or_ok {E : Env} {base : Nat} {F : FuncId} {a b : CI} (h : CIOK E base a) (k : CIOK E base b) : CIOK E base (CI.or F a b) := by
  intro f args σ r σr tl hr
  unfold CI.or at hr
  split at hr
  · exact h _ _ _ _ _ _ hr
  · exact k _ _ _ _ _ _ hr
theorem or_eq {F : FuncId} {a b : CI} (args : Cs) (σ : Store) : CI.or F a b F args σ = a F args σ := if_pos rfl
theorem or_ne {F f : FuncId} {a b : CI} (h : f ≠ F) (args : Cs) (σ : Store) : CI.or F a b f args σ = b f args σ := if_neg h

theorem inj_map {α : Type} {c : α → Cs} (h : ∀ x y, c x = c y → x = y) : ∀ l m : List α, l.map c = m.map c → l = m
  | [], [], _ => rfl
  | [], _ :: _, h => by simp at h
  | _ :: _, [], h => by simp at h
  | a :: l, b :: m, e => by
    simp only [List.map_cons, List.cons.injEq] at e
    rw [h a b e.1, inj_map h l m e.2]
theorem mkS_inj {a b : Str} (h : mkS a = mkS b) : a = b := by simp only [mkS, ByteArray.mk.injEq, Array.mk.injEq] at h; exact h
theorem mkS_eq (a b : Str) : (mkS a = mkS b) = (a = b) := propext ⟨mkS_inj, fun h => by rw [h]⟩
theorem av_int {k : IntKind} {a b : Int} (h : AV.v (.int k a) = AV.v (.int k b)) : a = b := by cases h; rfl
theorem av_bool {a b : Bool} (h : AV.v (.bool a) = AV.v (.bool b)) : a = b := by cases h; rfl
theorem av_str {a b : Str} (h : AV.v (.string (mkS a)) = AV.v (.string (mkS b))) : a = b := by
  simp only [AV.v.injEq, Value.string.injEq] at h; exact mkS_inj h
theorem av_sl {α : Type} {c : α → Cs} (hc : ∀ x y, c x = c y → x = y) {a b : List α} (h : AV.sl (List.map c a) = AV.sl (List.map c b)) : a = b := by
  simp only [AV.sl.injEq] at h; exact inj_map hc _ _ h
theorem av_agg {α : Type} {c : α → Cs} (hc : ∀ x y, c x = c y → x = y) {a b : α} (h : AV.agg (c a) = AV.agg (c b)) : a = b := by
  simp only [AV.agg.injEq] at h; exact hc _ _ h
theorem inj_int {k : IntKind} (x y : Int) (h : cInt k x = cInt k y) : x = y := av_int (List.cons.inj h).1
theorem inj_bool (x y : Bool) (h : cBool x = cBool y) : x = y := av_bool (List.cons.inj h).1
theorem inj_str (x y : Str) (h : cStr x = cStr y) : x = y := av_str (List.cons.inj h).1
theorem inj_sl {α : Type} {c : α → Cs} (hc : ∀ x y, c x = c y → x = y) (x y : List α) (h : cSl c x = cSl c y) : x = y := av_sl hc (List.cons.inj h).1
theorem cInt_eq (k : IntKind) (n : Int) : cInt k n = [.v (.int k n)] := rfl
theorem cBool_eq (b : Bool) : cBool b = [.v (.bool b)] := rfl
theorem cStr_eq (s : Str) : cStr s = [.v (.string (mkS s))] := rfl
theorem cSl_eq {α : Type} (c : α → Cs) (l : List α) : cSl c l = [.sl (l.map c)] := rfl
theorem len_cInt (k : IntKind) (l : List Int) : ((l.map (cInt k)).all fun e => e.length == 1) = true := all_len (c := cInt k) (n := 1) (fun _ => rfl) l
theorem len_cBool (l : List Bool) : ((l.map cBool).all fun e => e.length == 1) = true := all_len (c := cBool) (n := 1) (fun _ => rfl) l
theorem len_cStr (l : List Str) : ((l.map cStr).all fun e => e.length == 1) = true := all_len (c := cStr) (n := 1) (fun _ => rfl) l
theorem len_cSl {α : Type} (c : α → Cs) (l : List (List α)) : ((l.map (cSl c)).all fun e => e.length == 1) = true := all_len (c := cSl c) (n := 1) (fun _ => rfl) l
theorem setL_len {α : Type} (l : List α) (i : Int) (x : α) : (setL l i x).length = l.length := by simp [setL]
theorem setL_map {α : Type} (c : α → Cs) (l : List α) (i : Int) (x : α) : (l.map c).set i.toNat (c x) = (setL l i x).map c := by simp [setL]
theorem cut_all {α : Type} (c : α → Cs) (l : List α) (n : Int) : (l.map c).take n.toNat = (l.take n.toNat).map c := by simp
theorem mkS_size (a : Str) : (mkS a).size = a.length := rfl
theorem mkS_toList (a : Str) : (mkS a).data.toList = a := rfl
end Go.Bx

/- The rewriting rules for a region's run, as one. (Own text.) -/
namespace Go.Bx
set_option linter.unusedVariables false
set_option linter.unusedSimpArgs false
set_option linter.unusedSectionVars false
set_option linter.unusedVariables false
set_option linter.unusedSimpArgs false

theorem slice_ge {es : List Cs} {n : Nat} (h : es.length ≤ n) : slice es 0 n = es := by simp only [slice, List.drop_zero]; exact List.take_of_length_le h
theorem load_row {α : Type} (c : α → Cs) (l : List α) (n : Nat) {x : α} (h : l[n]? = some x) : (l.map c)[n]? = some (c x) := by simp [h]
theorem getD_some {α : Type} (x d : α) : (some x).getD d = x := rfl
theorem lt_zero_false (n : Nat) : (n < 0) = False := by simp
theorem own_nil (sz : Nat) {α : Type} (c : α → Cs) : AV.own false sz [] = .own false sz (([] : List α).map c) := rfl
theorem pl_cells_true : True := trivial
theorem reify_nilp (σ : Store) (n : Nat) : reify σ n (.v (.pointer none)) = some (.v (.pointer none)) := by cases n <;> rfl
theorem ite_some (c : Bool) : (if c = true then some true else some false) = some c := by cases c <;> rfl
theorem cells_own (sh : Bool) (sz : Nat) (es : List Cs) : cells (.own sh sz es) = [.own sh sz es] := rfl
theorem cells_emp : cells .emp = [.emp] := rfl
theorem leaf_emp : leaf .emp = true := rfl
theorem pl_emp : pl .emp = true := rfl
theorem rowIds_emp (σ : Store) (n : Nat) : rowIds σ n .emp = [] := by cases n <;> rfl
theorem reify_emp (σ : Store) (n : Nat) : reify σ n .emp = some (.sl []) := by cases n <;> rfl
theorem importAV_emp (σ : Store) : importAV σ .emp = (.emp, σ) := rfl
theorem setL_eq {α : Type} (l : List α) (i : Int) (x : α) : setL l i x = l.set i.toNat x := rfl
theorem slice_take {α : Type} (c : α → Cs) (l : List α) (n : Nat) : slice (l.map c) 0 n = (l.take n).map c := by simp [slice]
theorem omin_nn : omin none none = none := rfl
theorem cut_zero (x : Option Nat) : cut 0 x = none := by cases x <;> simp [cut]
theorem size_mkS (a : Str) : ((mkS a).size : Nat) = a.length := rfl
theorem reify_view {α : Type} (σ : Store) (k id sz : Nat) (sh : Bool) (c : α → Cs) (l : List α) (n : Nat) (h : σ.ob id = some ⟨sz, true, true, l.map c⟩) (hn : n = l.length) : reify σ (k + 1) (.row id sz 0 n) = some (.sl (l.map c)) := by
  subst hn
  rw [reify_flat h rfl (by simp) rfl, slice_map]

/-- Forgotten slots. -/
def jj : Nat → Cs → Cs
  | 0, l => l
  | n + 1, l => .junk :: jj n l
theorem jj_0 (l : Cs) : jj 0 l = l := rfl
theorem jj_s (n : Nat) (l : Cs) : jj (n + 1) l = .junk :: jj n l := rfl
end Go.Bx

/- Running an operation list by rewriting, one operation at a time. (Own text.) -/
namespace Go.Bx
set_option linter.unusedVariables false
set_option linter.unusedSimpArgs false
set_option linter.unusedSectionVars false
set_option linter.unusedVariables false
set_option linter.unusedSimpArgs false

def consF (f : Fl) : Option (FS × List Fl) → Option (FS × List Fl)
  | some (s, fs) => some (s, f :: fs)
  | none => none
theorem consF_some (f : Fl) (s : FS) (fs : List Fl) : consF f (some (s, fs)) = some (s, f :: fs) := rfl

/-- What an operation gives, and what comes behind it. -/
def stp (dst : Option Tmp) (s : FS) (k : FS → Option (FS × List Fl)) : Option OR → Option (FS × List Fl)
  | some r => consF ⟨r.md.isSome, r.rd⟩ (k ⟨putTm s.tm dst r.y, r.σ, omin s.low (cut s.c0 r.md), s.c0⟩)
  | none => none
theorem stp_some (dst : Option Tmp) (tm : Cs) (σ : Store) (low : Option Nat) (c0 : Nat) (k : FS → Option (FS × List Fl)) (y : AV) (σ' : Store) (md : Option Nat) (rd : Bool) :
    stp dst ⟨tm, σ, low, c0⟩ k (some ⟨y, σ', md, rd⟩) = consF ⟨md.isSome, rd⟩ (k ⟨putTm tm dst y, σ', omin low (cut c0 md), c0⟩) := rfl
def gdp (dst : Option Tmp) (op : Op) (s : FS) (E : Env) (ci : CI) (k : FS → Option (FS × List Fl)) : Option Bool → Option (FS × List Fl)
  | some true => stp dst s k (evO E.T E.br ci (evOp E.gl s.tm) s.σ op)
  | some false => consF ⟨false, false⟩ (k { s with tm := putTm s.tm dst (.v undef) })
  | none => none
theorem gdp_true (dst : Option Tmp) (op : Op) (tm : Cs) (σ : Store) (low : Option Nat) (c0 : Nat) (E : Env) (ci : CI) (k : FS → Option (FS × List Fl)) : gdp dst op ⟨tm, σ, low, c0⟩ E ci k (some true) = stp dst ⟨tm, σ, low, c0⟩ k (evO E.T E.br ci (evOp E.gl tm) σ op) := rfl
theorem gdp_false (dst : Option Tmp) (op : Op) (tm : Cs) (σ : Store) (low : Option Nat) (c0 : Nat) (E : Env) (ci : CI) (k : FS → Option (FS × List Fl)) : gdp dst op ⟨tm, σ, low, c0⟩ E ci k (some false) = consF ⟨false, false⟩ (k ⟨putTm tm dst (.v undef), σ, low, c0⟩) := rfl

section
variable (E : Env) (ci : CI) (ops : Array Oper) (rest : List Oper) (dst : Option Tmp) (op : Op) (ty : TypeId) (p : String) (af : Array Edge) (tm : Cs) (σ : Store) (low : Option Nat) (c0 : Nat)
theorem evOps_nil (s : FS) : evOps E ci ops [] s = some (s, []) := rfl
theorem evOps_plain : evOps E ci ops (⟨dst, op, ty, p, af, none⟩ :: rest) ⟨tm, σ, low, c0⟩ = stp dst ⟨tm, σ, low, c0⟩ (evOps E ci ops rest) (evO E.T E.br ci (evOp E.gl tm) σ op) := by
  simp only [evOps, stepG, wantedAV, stepO, stp]
  cases evO E.T E.br ci (evOp E.gl tm) σ op with
  | none => rfl
  | some r =>
    simp only [consF]
    cases evOps E ci ops rest _ with
    | none => rfl
    | some q => rfl
theorem evOps_guard (g : Nat × Bool) : evOps E ci ops (⟨dst, op, ty, p, af, some g⟩ :: rest) ⟨tm, σ, low, c0⟩ = gdp dst op ⟨tm, σ, low, c0⟩ E ci (evOps E ci ops rest) (wantedAV ops tm ⟨dst, op, ty, p, af, some g⟩) := by
  simp only [evOps, stepG]
  cases wantedAV ops tm ⟨dst, op, ty, p, af, some g⟩ with
  | none => rfl
  | some b =>
    cases b with
    | true =>
      simp only [stepO, gdp, stp]
      cases evO E.T E.br ci (evOp E.gl tm) σ op with
      | none => rfl
      | some r =>
        simp only [consF]
        cases evOps E ci ops rest _ with
        | none => rfl
        | some q => rfl
    | false =>
      simp only [gdp, consF]
      cases evOps E ci ops rest _ with
      | none => rfl
      | some q => rfl
def wnt (w : Bool) : Option AV → Option Bool
  | some (.v (.bool b)) => some (b == w)
  | some .junk => none
  | some _ => some false
  | none => some false
theorem wanted_at (j : Nat) (w : Bool) : wantedAV ops tm ⟨dst, op, ty, p, af, some (j, w)⟩ = match (ops[j]?).bind (·.dst) with
    | some d => wnt w (tm[d]?)
    | none => some false := by
  simp only [wantedAV]
  cases (ops[j]?).bind (·.dst) with
  | none => rfl
  | some d =>
    simp only
    cases tm[d]? with
    | none => rfl
    | some x =>
      cases x with
      | v u => cases u <;> rfl
      | _ => rfl
theorem wnt_tt : wnt true (some (.v (.bool true))) = some true := rfl
theorem wnt_tf : wnt true (some (.v (.bool false))) = some false := rfl
theorem wnt_ft : wnt false (some (.v (.bool true))) = some false := rfl
theorem wnt_ff : wnt false (some (.v (.bool false))) = some true := rfl
theorem wnt_b (w b : Bool) : wnt w (some (.v (.bool b))) = some (b == w) := rfl
theorem wnt_u (w : Bool) : wnt w (some (.v undef)) = some false := rfl

def rgF : Option (FS × List Fl) → Option FS
  | some (s, _) => some s
  | none => none
theorem rgF_some (s : FS) (fs : List Fl) : rgF (some (s, fs)) = some s := rfl
def rgT (ops : Array Oper) : Option (FS × List Fl) → Option FS
  | some (s, fs) => if (regOK ops && calm (Region.before ops) fs) = true then some s else none
  | none => none
theorem rgT_some (s : FS) (fs : List Fl) : rgT ops (some (s, fs)) = if (regOK ops && calm (Region.before ops) fs) = true then some s else none := rfl
theorem evRegion_f (s : FS) : evRegion E ci ops false s = rgF (evOps E ci ops ops.toList s) := by
  simp only [evRegion, rgF]
  cases evOps E ci ops ops.toList s with
  | none => rfl
  | some q => rfl
theorem evRegion_t (s : FS) : evRegion E ci ops true s = rgT ops (evOps E ci ops ops.toList s) := by
  simp only [evRegion, rgT]
  cases evOps E ci ops ops.toList s with
  | none => rfl
  | some q => rfl
end

/-! ### the operations -/
def p1 (σ : Store) : Option AV → Option OR
  | some y => some ⟨y, σ, none, false⟩
  | none => none
theorem p1_some (σ : Store) (y : AV) : p1 σ (some y) = some ⟨y, σ, none, false⟩ := rfl

section
variable {T : Tab} {br : FuncId → Bool} {ci : CI} {ρ : Operand → AV} {σ : Store}
theorem evO_move (x : Operand) : evO T br ci ρ σ (.move x) = some ⟨ρ x, σ, none, false⟩ := rfl
theorem evO_assign (x : Operand) : evO T br ci ρ σ (.assign x) = some ⟨ρ x, σ, none, false⟩ := rfl
theorem evO_pick (q a b : Operand) : evO T br ci ρ σ (.pick q a b) = match ρ q with
    | .v (.bool b') => some ⟨if b' then ρ a else ρ b, σ, none, false⟩
    | _ => none := by
  simp only [evO, evA, evB]
  cases ρ q with
  | v u => cases u <;> rfl
  | _ => rfl
theorem evO_bin (op : BinOp) (t u : TypeId) (x y : Operand) : evO T br ci ρ σ (.binOp op t x y u) = p1 σ (if (bothNil (ρ x) (ρ y) && !(constOp x || constOp y)) = true then none else evBin T op t (ρ x) (ρ y)) := by
  simp only [evO, evA]
  cases (if (bothNil (ρ x) (ρ y) && !(constOp x || constOp y)) = true then none else evBin T op t (ρ x) (ρ y)) <;> rfl
theorem evO_un (op : UnOp) (t : TypeId) (x : Operand) : evO T br ci ρ σ (.unOp op t x) = p1 σ (evUn op (ρ x)) := by
  simp only [evO, evA]
  cases evUn op (ρ x) <;> rfl
theorem evO_extract (x : Operand) (i : Nat) : evO T br ci ρ σ (.extract x i) = match ρ x with
    | .tup vs => p1 σ vs[i]?
    | _ => none := by
  simp only [evO, evA]
  cases ρ x with
  | tup vs => simp only; cases vs[i]? <;> rfl
  | _ => rfl
theorem evO_indexAddr (t : TypeId) (x i : Operand) : evO T br ci ρ σ (.indexAddr t x i) = p1 σ (indexAddrAV T t (ρ x) (ρ i)) := by
  simp only [evO, evA]
  cases indexAddrAV T t (ρ x) (ρ i) <;> rfl
theorem evO_call (f : Operand) (args : Array Operand) (ts : Array TypeId) : evO T br ci ρ σ (.call ⟨.value f, args, ts⟩) = evCall br ci σ (ρ f) (args.toList.map ρ) := rfl
theorem evO_append (args : Array Operand) (ts : Array TypeId) : evO T br ci ρ σ (.call ⟨.builtin .append, args, ts⟩) = match args.toList, ts.toList with
    | [s, x], [t, t'] => if t = t' then evAppend T σ t (ρ s) (ρ x) else none
    | _, _ => none := rfl
theorem evO_store (t : TypeId) (a x : Operand) : evO T br ci ρ σ (.store t a x) = evStore T σ t (ρ a) (ρ x) := rfl
def ldV (r : TRow) (cs : Cs) : Option AV := if r.sz ≤ cs.length then ofCells r.desc.isAgg (cs.take r.sz) else none
theorem evO_load (t : TypeId) (a : Operand) : evO T br ci ρ σ (.load t a) = match T t, ρ a with
    | some r, .vp cs => p1 σ (ldV r cs)
    | some r, x => evLoad T σ t x
    | none, _ => none := by
  simp only [evO, evA, evB]
  cases hT : T t with
  | none => simp only [evLoad, hT]
  | some r =>
    cases ha : ρ a with
    | vp cs =>
      simp only [ldV]
      cases (if r.sz ≤ cs.length then ofCells r.desc.isAgg (cs.take r.sz) else none) with
      | none => simp only [Option.map_none, evLoad, hT, p1]
      | some y => rfl
    | _ => rfl
theorem evO_fieldAddr (s : TypeId) (x : Operand) (f : Nat) : evO T br ci ρ σ (.fieldAddr s x f) = match fieldPlaceT T s f, ρ x with
    | some (o, r), .vp cs => if r.sz = 0 then none else some ⟨.vp (cs.drop o), σ, none, false⟩
    | some (o, r), .ptr id i off => if r.sz = 0 then none else some ⟨.ptr id i (off + o), σ, none, false⟩
    | _, _ => none := by
  simp only [evO, evA, evB]
  cases fieldPlaceT T s f with
  | none => rfl
  | some q =>
    obtain ⟨o, r⟩ := q
    cases ρ x with
    | vp cs => simp only; by_cases h : r.sz = 0 <;> simp [h]
    | ptr id i off => simp only; by_cases h : r.sz = 0 <;> simp [h]
    | _ => rfl
theorem evO_alloc (t : TypeId) : evO T br ci ρ σ (.alloc t) = match T t with
    | some r => if r.zero.length = r.sz then some ⟨.ptr σ.clock 0 0, σ.new ⟨r.sz, false, false, [r.zero.map .v]⟩, none, false⟩ else none
    | none => none := by
  simp only [evO, evA, evB]
  cases T t with
  | none => rfl
  | some r => simp only; by_cases h : r.zero.length = r.sz <;> simp [h]
theorem evO_box (t : TypeId) (x : Operand) : evO T br ci ρ σ (.box t x) = match T t with
    | some r => if (cells (ρ x)).length = r.sz ∧ (cells (ρ x)).all leaf = true then some ⟨.ptr σ.clock 0 0, σ.new ⟨r.sz, false, false, [cells (ρ x)]⟩, none, false⟩ else none
    | none => none := by
  simp only [evO, evA, evB]
  cases T t with
  | none => rfl
  | some r =>
    simp only
    by_cases h : (cells (ρ x)).length = r.sz ∧ (cells (ρ x)).all leaf = true
    · simp only [if_pos h]
    · simp only [if_neg h]
end
def viaA (σ : Store) : Option (AV × Option Obj) → Option OR
  | some (y, none) => some ⟨y, σ, none, false⟩
  | some (y, some ob) => some ⟨y, σ.new ob, none, false⟩
  | none => none
theorem viaA_1 (σ : Store) (y : AV) : viaA σ (some (y, none)) = some ⟨y, σ, none, false⟩ := rfl
theorem viaA_2 (σ : Store) (y : AV) (ob : Obj) : viaA σ (some (y, some ob)) = some ⟨y, σ.new ob, none, false⟩ := rfl
theorem evO_build {T : Tab} {br : FuncId → Bool} {ci : CI} {ρ : Operand → AV} {σ : Store} (t : TypeId) (ps : Array (Nat × Operand)) : evO T br ci ρ σ (.build t ps) = viaA σ (evA T ρ σ.clock (.build t ps)) := by
  unfold evO viaA
  cases evA T ρ σ.clock (.build t ps) with
  | none => rfl
  | some q => obtain ⟨y, ob⟩ := q; cases ob <;> rfl
theorem evO_buildSlice {T : Tab} {br : FuncId → Bool} {ci : CI} {ρ : Operand → AV} {σ : Store} (t : TypeId) (n : Nat) (ps : Array (Nat × Operand)) : evO T br ci ρ σ (.buildSlice t n ps) = viaA σ (evA T ρ σ.clock (.buildSlice t n ps)) := by
  unfold evO viaA
  cases evA T ρ σ.clock (.buildSlice t n ps) with
  | none => rfl
  | some q => obtain ⟨y, ob⟩ := q; cases ob <;> rfl
theorem evO_makeSlice {T : Tab} {br : FuncId → Bool} {ci : CI} {ρ : Operand → AV} {σ : Store} (t : TypeId) (a b : Operand) : evO T br ci ρ σ (.makeSlice t a b) = viaA σ (evA T ρ σ.clock (.makeSlice t a b)) := by
  unfold evO viaA
  cases evA T ρ σ.clock (.makeSlice t a b) with
  | none => rfl
  | some q => obtain ⟨y, ob⟩ := q; cases ob <;> rfl
theorem evO_convert {T : Tab} {br : FuncId → Bool} {ci : CI} {ρ : Operand → AV} {σ : Store} (a b : TypeId) (x : Operand) : evO T br ci ρ σ (.convert a b x) = viaA σ (evA T ρ σ.clock (.convert a b x)) := by
  unfold evO viaA
  cases evA T ρ σ.clock (.convert a b x) with
  | none => rfl
  | some q => obtain ⟨y, ob⟩ := q; cases ob <;> rfl
theorem evO_field {T : Tab} {br : FuncId → Bool} {ci : CI} {ρ : Operand → AV} {σ : Store} (t : TypeId) (x : Operand) (f : Nat) : evO T br ci ρ σ (.field t x f) = viaA σ (evA T ρ σ.clock (.field t x f)) := by
  unfold evO viaA
  cases evA T ρ σ.clock (.field t x f) with
  | none => rfl
  | some q => obtain ⟨y, ob⟩ := q; cases ob <;> rfl
theorem evO_slice {T : Tab} {br : FuncId → Bool} {ci : CI} {ρ : Operand → AV} {σ : Store} (t : TypeId) (x : Operand) (a b c : Option Operand) : evO T br ci ρ σ (.slice t x a b c) = viaA σ (evA T ρ σ.clock (.slice t x a b c)) := by
  unfold evO viaA
  cases evA T ρ σ.clock (.slice t x a b c) with
  | none => rfl
  | some q => obtain ⟨y, ob⟩ := q; cases ob <;> rfl
theorem evO_index {T : Tab} {br : FuncId → Bool} {ci : CI} {ρ : Operand → AV} {σ : Store} (t : TypeId) (x i : Operand) : evO T br ci ρ σ (.index t x i) = viaA σ (evA T ρ σ.clock (.index t x i)) := by
  unfold evO viaA
  cases evA T ρ σ.clock (.index t x i) with
  | none => rfl
  | some q => obtain ⟨y, ob⟩ := q; cases ob <;> rfl
theorem evO_nilCheck {T : Tab} {br : FuncId → Bool} {ci : CI} {ρ : Operand → AV} {σ : Store} (x : Operand) : evO T br ci ρ σ (.nilCheck x) = viaA σ (evA T ρ σ.clock (.nilCheck x)) := by
  unfold evO viaA
  cases evA T ρ σ.clock (.nilCheck x) with
  | none => rfl
  | some q => obtain ⟨y, ob⟩ := q; cases ob <;> rfl
theorem evO_makeFunc {T : Tab} {br : FuncId → Bool} {ci : CI} {ρ : Operand → AV} {σ : Store} (f : Fn) (a b : Array Operand) : evO T br ci ρ σ (.makeFunc f a b) = viaA σ (evA T ρ σ.clock (.makeFunc f a b)) := by
  unfold evO viaA
  cases evA T ρ σ.clock (.makeFunc f a b) with
  | none => rfl
  | some q => obtain ⟨y, ob⟩ := q; cases ob <;> rfl
theorem evO_makeInterface {T : Tab} {br : FuncId → Bool} {ci : CI} {ρ : Operand → AV} {σ : Store} (t : TypeId) (x : Operand) : evO T br ci ρ σ (.makeInterface t x) = viaA σ (evA T ρ σ.clock (.makeInterface t x)) := by
  unfold evO viaA
  cases evA T ρ σ.clock (.makeInterface t x) with
  | none => rfl
  | some q => obtain ⟨y, ob⟩ := q; cases ob <;> rfl
theorem evO_len {T : Tab} {br : FuncId → Bool} {ci : CI} {ρ : Operand → AV} {σ : Store} (a : Array Operand) (t : Array TypeId) : evO T br ci ρ σ (.call ⟨.builtin .len, a, t⟩) = viaA σ (evA T ρ σ.clock (.call ⟨.builtin .len, a, t⟩)) := by
  unfold evO viaA
  cases evA T ρ σ.clock (.call ⟨.builtin .len, a, t⟩) with
  | none => rfl
  | some q => obtain ⟨y, ob⟩ := q; cases ob <;> rfl
theorem evO_min {T : Tab} {br : FuncId → Bool} {ci : CI} {ρ : Operand → AV} {σ : Store} (a : Array Operand) (t : Array TypeId) : evO T br ci ρ σ (.call ⟨.builtin .min, a, t⟩) = viaA σ (evA T ρ σ.clock (.call ⟨.builtin .min, a, t⟩)) := by
  unfold evO viaA
  cases evA T ρ σ.clock (.call ⟨.builtin .min, a, t⟩) with
  | none => rfl
  | some q => obtain ⟨y, ob⟩ := q; cases ob <;> rfl
theorem evO_max {T : Tab} {br : FuncId → Bool} {ci : CI} {ρ : Operand → AV} {σ : Store} (a : Array Operand) (t : Array TypeId) : evO T br ci ρ σ (.call ⟨.builtin .max, a, t⟩) = viaA σ (evA T ρ σ.clock (.call ⟨.builtin .max, a, t⟩)) := by
  unfold evO viaA
  cases evA T ρ σ.clock (.call ⟨.builtin .max, a, t⟩) with
  | none => rfl
  | some q => obtain ⟨y, ob⟩ := q; cases ob <;> rfl
end Go.Bx

/- The rewriting rules for a region's run, as one. (Own text.) -/
namespace Go.Bx
set_option linter.unusedVariables false
set_option linter.unusedSimpArgs false
set_option linter.unusedSectionVars false
set_option maxRecDepth 10000
theorem bxm :
  ((((((((∀ (s1 : FS) (f : FS → Option (Ex × FS)), andThen (some (Ex.nrm, s1)) f = f s1) ∧ ((∀ (t : Bool) (a b : Option (Ex × FS)), pick (AV.v (Go.Value.bool t)) a b = if t = true then a else b) ∧ (∀ {α β : Type} (a : α) (f : α → β), Option.map f (some a) = some (f a)))) ∧ ((∀ (a : Option Nat), omin a none = a) ∧ ((∀ (a : Option Nat), omin none a = a) ∧ (omin none none = none)))) ∧ (((∀ (c0 : Nat), cut c0 none = none) ∧ ((∀ (x : Option Nat), cut (0 : Nat) x = none) ∧ (∀ {α β : Type} (a : α) (f : α → Option β), Option.bind (some a) f = f a))) ∧ (((∀ {α β : Type} {as : List α} (f : α → β), List.length (List.map f as) = List.length as) ∧ (∀ (b : Bool), (false && b) = false)) ∧ (((!true) = false) ∧ (∀ (b : Bool), (b && false) = false))))) ∧ ((((∀ {α : Prop} {x : Decidable False} (t e : α), (if False then t else e) = e) ∧ ((∀ {α : Prop} {x : Decidable True} (t e : α), (if True then t else e) = t) ∧ (∀ (b : Bool), (b || false) = b))) ∧ (((!false) = true) ∧ ((∀ (b : Bool), (b && true) = b) ∧ (∀ (b : Bool), (true && b) = b)))) ∧ (((∀ {α : Type}, Option.isSome (α := α) none = false) ∧ ((∀ {α : Type} {a : α}, Option.isSome (some a) = true) ∧ (∀ {α : Type} {a : α} {as : List α}, List.length (a :: as) = List.length as + (1 : Nat)))) ∧ (((∀ {α : Type}, List.length (α := α) [] = (0 : Nat)) ∧ (∀ {α : Type} {a : α} {as : List α} {i : Nat}, List.take (i + (1 : Nat)) (a :: as) = a :: List.take i as)) ∧ ((∀ {α : Type} {l : List α}, List.take (0 : Nat) l = []) ∧ (∀ {α : Type} {l : List α}, List.drop (0 : Nat) l = l)))))) ∧ (((((∀ {α : Type} {a : α} {l : List α} {i : Nat}, List.drop (i + (1 : Nat)) (a :: l) = List.drop i l) ∧ ((∀ (n : Nat), (0 : Nat) + n = n) ∧ (∀ (n : Nat), n ≤ n))) ∧ ((∀ (h : Decidable True), decide True = true) ∧ ((∀ (h : Decidable False), decide False = false) ∧ (∀ {α : Type} (as : List α), as ++ [] = as)))) ∧ (((∀ {α : Type} (as : List α), [] ++ as = as) ∧ ((∀ {α : Type} {a : α} {as bs : List α}, a :: as ++ bs = a :: (as ++ bs)) ∧ (∀ (b : Bool), (b == true) = b))) ∧ (((∀ (b : Bool), (b == false) = !b) ∧ (∀ (cs : Cs), cells (AV.agg cs) = cs)) ∧ ((∀ (k : Go.IntKind) (n : Int), cells (AV.v (Go.Value.int k n)) = [AV.v (Go.Value.int k n)]) ∧ (∀ (b : Bool), cells (AV.v (Go.Value.bool b)) = [AV.v (Go.Value.bool b)]))))) ∧ ((((∀ (s : ByteArray), cells (AV.v (Go.Value.string s)) = [AV.v (Go.Value.string s)]) ∧ ((cells (AV.v (Go.Value.slice none (0 : Nat) (0 : Nat))) = [AV.v (Go.Value.slice none (0 : Nat) (0 : Nat))]) ∧ (cells (AV.v (Go.Value.pointer none)) = [AV.v (Go.Value.pointer none)]))) ∧ ((∀ (es : List Cs), cells (AV.sl es) = [AV.sl es]) ∧ ((∀ (id sz lo n : Nat), cells (AV.row id sz lo n) = [AV.row id sz lo n]) ∧ (∀ (id i o : Nat), cells (AV.ptr id i o) = [AV.ptr id i o])))) ∧ (((∀ (l : List (Option Obj)), Store.clock (St l) = List.length l) ∧ ((∀ (l : List (Option Obj)) (i : Nat), Store.ob (St l) i = Option.getD (getElem? (valid := fun (as : List (Option Obj)) (i : Nat) ↦ i < List.length as) l i) none) ∧ (∀ (l : List (Option Obj)) (o : Obj), Store.new (St l) o = St (l ++ [some o])))) ∧ (((∀ {a b : Nat}, a = a + b ↔ b = (0 : Nat)) ∧ (∀ {a b : Nat}, a + b = a ↔ b = (0 : Nat))) ∧ ((∀ {m k n : Nat}, n + m = n + k ↔ m = k) ∧ (∀ {α : Prop} (a : α), (a = a) = True))))))) ∧ ((((((∀ (n : Nat), Nat.succ n ≠ n) ∧ ((∀ (es : List Cs), slice es (0 : Nat) (List.length es) = es) ∧ (∀ {α : Type} (f : α → Cs) (l : List α), slice (List.map f l) (0 : Nat) (List.length l) = List.map f l))) ∧ ((∀ (x : Cs) (es : List Cs), slice (x :: es) (0 : Nat) (1 : Nat) = [x]) ∧ ((∀ (n : Nat), slice [] (0 : Nat) n = []) ∧ (∀ {α : Type} (i : Nat) (l : List α), List.take i l ++ List.drop i l = l)))) ∧ (((∀ {α : Type} {a : α} {l : List α} {f : α → Bool}, List.all (a :: l) f = (f a && List.all l f)) ∧ ((∀ {α : Type} {f : α → Bool}, List.all [] f = true) ∧ (∀ {α : Type} [inst : BEq α] [ReflBEq α] (a : α), (a == a) = true))) ∧ (((∀ (p : Prop), (p ∧ p) = p) ∧ (∀ {α : Type} {as : List α} {i : Nat} {a : α}, List.length (List.set as i a) = List.length as)) ∧ ((∀ {α β : Type} {f : α → β} {a : α} {l : List α}, List.map f (a :: l) = f a :: List.map f l) ∧ (∀ {α β : Type} {f : α → β}, List.map f [] = []))))) ∧ ((((∀ {n : Nat}, List.range (Nat.succ n) = List.range n ++ [n]) ∧ ((List.range (0 : Nat) = []) ∧ (∀ {α : Type} {as bs : List α}, List.length (as ++ bs) = List.length as + List.length bs))) ∧ ((∀ (k : Go.IntKind) (n : Int), leaf (AV.v (Go.Value.int k n)) = true) ∧ ((∀ (b : Bool), leaf (AV.v (Go.Value.bool b)) = true) ∧ (∀ (s : ByteArray), leaf (AV.v (Go.Value.string s)) = true)))) ∧ (((leaf (AV.v (Go.Value.slice none (0 : Nat) (0 : Nat))) = true) ∧ ((leaf (AV.v (Go.Value.pointer none)) = true) ∧ (∀ (es : List Cs), leaf (AV.sl es) = true))) ∧ (((∀ (id sz lo n : Nat), leaf (AV.row id sz lo n) = true) ∧ (∀ (k : Go.IntKind) (n : Int), pl (AV.v (Go.Value.int k n)) = true)) ∧ ((∀ (b : Bool), pl (AV.v (Go.Value.bool b)) = true) ∧ (∀ (s : ByteArray), pl (AV.v (Go.Value.string s)) = true)))))) ∧ (((((pl (AV.v (Go.Value.slice none (0 : Nat) (0 : Nat))) = true) ∧ ((pl (AV.v (Go.Value.pointer none)) = true) ∧ (∀ (es : List Cs), pl (AV.sl es) = true))) ∧ ((∀ (id sz lo n : Nat), pl (AV.row id sz lo n) = false) ∧ (((1 : Nat) ≠ (0 : Nat)) ∧ (∀ (p : Prop), (False → p) = True)))) ∧ (((∀ (α : Prop), (α → True) = True) ∧ ((∀ {b : Prop} (α : Prop) [i : Nonempty α], α → b ↔ b) ∧ ((¬False) = True))) ∧ (((∀ {α : Type} {as : List α}, Array.toList (List.toArray as) = as) ∧ (∀ (p : Prop), (True ∧ p) = p)) ∧ ((∀ (p : Prop), (p ∧ True) = p) ∧ (∀ {α : Type} {a : α} {as : List α} {α_1 : Type} {b : α_1} {bs : List α_1}, List.zip (a :: as) (b :: bs) = (a, b) :: List.zip as bs))))) ∧ ((((∀ {α : Type} {x : α} {xs : List α} {a : α}, List.set (x :: xs) (0 : Nat) a = a :: xs) ∧ ((∀ {α : Type} {x : α} {xs : List α} {i : Nat} {a : α}, List.set (x :: xs) (i + (1 : Nat)) a = x :: List.set xs i a) ∧ (∀ {α : Type} {x : α} {xs : List α} {d : α}, List.getD (x :: xs) (0 : Nat) d = x))) ∧ (((∀ {α : Type} {x : α} {xs : List α} {n : Nat} {d : α}, List.getD (x :: xs) (n + (1 : Nat)) d = List.getD xs n d) ∧ (∀ (n : Nat), Int.toNat (↑n : Int) = n)) ∧ ((∀ {α : Type} (f : α → Cs) (l : List α) (n : Nat), slice (List.map f l) n (List.length l - n) = List.map f (List.drop n l)) ∧ (∀ (n : Nat), (0 : Int) ≤ (↑n : Int))))) ∧ (((∀ {α : Type} {i : Nat} {l : List α}, List.length (List.drop i l) = List.length l - i) ∧ ((∀ {α β : Type} (f : α → β), Option.map f none = none) ∧ (∀ {α β : Type} {x : α} {xs : List α} {f : α → List β}, List.flatMap f (x :: xs) = f x ++ List.flatMap f xs))) ∧ (((∀ {α β : Type} {f : α → List β}, List.flatMap f [] = []) ∧ (∀ (σ : Store) (n : Nat) (x : Go.Value), rowIds σ n (AV.v x) = [])) ∧ ((∀ (σ : Store) (n : Nat) (es : List Cs), rowIds σ n (AV.sl es) = []) ∧ (∀ (σ : Store) (n id sz lo k : Nat),
  rowIds σ (n + (1 : Nat)) (AV.row id sz lo k) =
    id ::
      match Store.ob σ id with
      | some o => if Obj.flat o = true then [] else List.flatMap (fun (e : Cs) ↦ List.flatMap (rowIds σ n) e) (Obj.es o)
      | none => [])))))))) ∧ (((((((∀ (σ : Store) (n : Nat) (cs : Cs), rowIds σ (n + (1 : Nat)) (AV.agg cs) = List.flatMap (rowIds σ n) cs) ∧ ((∀ (σ : Store), shareAll σ [] = σ) ∧ (∀ (σ : Store) (i : Nat) (l : List Nat), shareAll σ (i :: l) = shareAll (share σ i) l))) ∧ ((∀ (σ : Store), freshL σ [] = none) ∧ ((∀ (σ : Store) (n id sz lo k : Nat),
  reify σ (n + (1 : Nat)) (AV.row id sz lo k) =
    match Store.ob σ id with
    | some o =>
      if Obj.sh o = true ∧ lo + k ≤ List.length (Obj.es o) then
        if Obj.flat o = true then some (AV.sl (slice (Obj.es o) lo k))
        else
          match mapO (fun (e : List AV) ↦ mapO (reify σ n) e) (slice (Obj.es o) lo k) with
          | some es => if (List.all es fun (e : List AV) ↦ List.all e pl) = true then some (AV.sl es) else none
          | none => none
      else none
    | none => none) ∧ (∀ {α β : Type} {a : α} {l : List α} {f : β → α → β} {b : β}, List.foldl f b (a :: l) = List.foldl f (f b a) l)))) ∧ (((∀ {α β : Type} {f : α → β → α} {b : α}, List.foldl f b [] = b) ∧ ((∀ (σ : Store) (n : Nat) (k : Go.IntKind) (z : Int), reify σ n (AV.v (Go.Value.int k z)) = some (AV.v (Go.Value.int k z))) ∧ (∀ (σ : Store) (n : Nat) (b : Bool), reify σ n (AV.v (Go.Value.bool b)) = some (AV.v (Go.Value.bool b))))) ∧ (((∀ (σ : Store) (n : Nat) (b : ByteArray), reify σ n (AV.v (Go.Value.string b)) = some (AV.v (Go.Value.string b))) ∧ (∀ (σ : Store) (n : Nat), reify σ n (AV.v (Go.Value.slice none (0 : Nat) (0 : Nat))) = some (AV.sl []))) ∧ ((∀ (σ : Store) (n : Nat), reify σ n (AV.v (Go.Value.pointer none)) = some (AV.v (Go.Value.pointer none))) ∧ (∀ (σ : Store) (n : Nat) (es : List Cs), reify σ n (AV.sl es) = some (AV.sl es)))))) ∧ ((((∀ (σ : Store) (n : Nat) (cs : Cs), reify σ (n + (1 : Nat)) (AV.agg cs) = Option.map AV.agg (mapO (reify σ n) cs)) ∧ ((∀ (σ : Store) (x : Go.Value), importAV σ (AV.v x) = (AV.v x, σ)) ∧ (∀ (σ : Store) (es : List Cs), importAV σ (AV.sl es) = (AV.sl es, σ)))) ∧ ((∀ (σ : Store) (sh : Bool) (sz : Nat) (es : List Cs), importAV σ (AV.own sh sz es) = (AV.row (Store.clock σ) sz (0 : Nat) (List.length es), Store.new σ (Obj.mk sz sh true es))) ∧ ((∀ (σ : Store) (cs : Cs), importAV σ (AV.agg cs) = (AV.agg (Prod.fst (importL σ cs)), Prod.snd (importL σ cs))) ∧ (∀ (σ : Store) (vs : Cs), importAV σ (AV.tup vs) = (AV.tup (Prod.fst (import2L σ vs)), Prod.snd (import2L σ vs)))))) ∧ (((∀ {α : Type} (c : α → Cs) (l : List α) (n : Nat), List.drop n (List.map c l) = List.map c (List.drop n l)) ∧ ((∀ {α : Type} (c : α → Cs) (l : List α) (n : Nat), List.take n (List.map c l) = List.map c (List.take n l)) ∧ (∀ {α : Type} (x d : α), Option.getD (some x) d = x))) ∧ (((∀ {p : Prop} [inst : Decidable p], (decide p = true) = p) ∧ (∀ {α : Type} {as bs : List α}, List.append as bs = as ++ bs)) ∧ ((∀ {α : Type}, List.Nodup (α := α) []) ∧ (∀ {α : Type} {a : α} {l : List α}, List.Nodup (a :: l) ↔ ¬a ∈ l ∧ List.Nodup l)))))) ∧ (((((∀ {α : Type} {a : α}, ¬Membership.mem (γ := List α) [] a) ∧ ((∀ {es : List Cs} {n : Nat}, List.length es ≤ n → slice es (0 : Nat) n = es) ∧ (∀ (k : Go.IntKind) (n : Int), cInt k n = [AV.v (Go.Value.int k n)]))) ∧ ((∀ (b : Bool), cBool b = [AV.v (Go.Value.bool b)]) ∧ ((∀ (s : Str), cStr s = [AV.v (Go.Value.string (mkS s))]) ∧ (∀ {α : Type} (c : α → Cs) (l : List α), cSl c l = [AV.sl (List.map c l)])))) ∧ (((∀ (k : Go.IntKind) (l : List Int), (List.all (List.map (cInt k) l) fun (e : Cs) ↦ List.length e == (1 : Nat)) = true) ∧ ((∀ (l : List Bool), (List.all (List.map cBool l) fun (e : Cs) ↦ List.length e == (1 : Nat)) = true) ∧ (∀ (l : List Str), (List.all (List.map cStr l) fun (e : Cs) ↦ List.length e == (1 : Nat)) = true))) ∧ (((∀ {α : Type} (c : α → Cs) (l : List (List α)), (List.all (List.map (cSl c) l) fun (e : Cs) ↦ List.length e == (1 : Nat)) = true) ∧ (∀ (id i o : Nat), leaf (AV.ptr id i o) = true)) ∧ ((∀ {α : Type} (l : List α) (i : Int) (x : α), List.length (setL l i x) = List.length l) ∧ (∀ {α β : Type} {f : α → List β}, List.flatMap f [] = []))))) ∧ ((((∀ (l : List (Option Obj)) (i : Nat) (o : Option Obj), i < List.length l → Store.put (St l) i o = St (List.set l i o)) ∧ ((∀ {α : Type} {xs : List α} {i : Nat}, getElem? (valid := fun (xs : Array α) (i : Nat) ↦ i < Array.size xs) (List.toArray xs) i = getElem? (valid := fun (as : List α) (i : Nat) ↦ i < List.length as) xs i) ∧ (∀ {α : Type} {a : α} {l : List α}, getElem? (valid := fun (as : List α) (i : Nat) ↦ i < List.length as) (a :: l) (0 : Nat) = some a))) ∧ (((∀ {α : Type} {a : α} {i : Nat} {l : List α}, getElem? (valid := fun (as : List α) (i : Nat) ↦ i < List.length as) (a :: l) (i + (1 : Nat)) = getElem? (valid := fun (as : List α) (i : Nat) ↦ i < List.length as) l i) ∧ (∀ {α β : Type} {f : α → β} {l : List α} {i : Nat}, getElem? (valid := fun (as : List β) (i : Nat) ↦ i < List.length as) (List.map f l) i = Option.map f (getElem? (valid := fun (as : List α) (i : Nat) ↦ i < List.length as) l i))) ∧ ((∀ {α : Type} {i : Nat}, getElem? (valid := fun (as : List α) (i : Nat) ↦ i < List.length as) [] i = none) ∧ (∀ (c : Bool), (if c = true then some true else some false) = some c)))) ∧ (((∀ (sh : Bool) (sz : Nat) (es : List Cs), cells (AV.own sh sz es) = [AV.own sh sz es]) ∧ ((∀ (p : Prop), (False ∨ p) = p) ∧ (∀ (p : Prop), (p ∨ False) = p))) ∧ (((∀ (p : Prop), (p ∨ True) = True) ∧ (∀ (p : Prop), (True ∨ p) = True)) ∧ ((∀ (n : Nat), n - (0 : Nat) = n) ∧ (∀ (E : Env) (ci : CI) (ops : Array Go.Oper) (s : FS), evOps E ci ops [] s = some (s, [])))))))) ∧ ((((((∀ (E : Env) (ci : CI) (ops : Array Go.Oper) (rest : List Go.Oper) (dst : Option Go.Tmp) (op : Go.Op) (ty : Go.TypeId) (p : String) (af : Array Go.Edge) (tm : Cs) (σ : Store) (low : Option Nat) (c0 : Nat), evOps E ci ops (Go.Oper.mk dst op ty p af none :: rest) (FS.mk tm σ low c0) = stp dst (FS.mk tm σ low c0) (evOps E ci ops rest) (evO (Env.T E) (Env.br E) ci (evOp (Env.gl E) tm) σ op)) ∧ ((∀ (E : Env) (ci : CI) (ops : Array Go.Oper) (rest : List Go.Oper) (dst : Option Go.Tmp) (op : Go.Op) (ty : Go.TypeId) (p : String) (af : Array Go.Edge) (tm : Cs) (σ : Store) (low : Option Nat) (c0 : Nat) (g : Nat × Bool), evOps E ci ops (Go.Oper.mk dst op ty p af (some g) :: rest) (FS.mk tm σ low c0) = gdp dst op (FS.mk tm σ low c0) E ci (evOps E ci ops rest) (wantedAV ops tm (Go.Oper.mk dst op ty p af (some g)))) ∧ (∀ (ops : Array Go.Oper) (dst : Option Go.Tmp) (op : Go.Op) (ty : Go.TypeId) (p : String) (af : Array Go.Edge) (tm : Cs) (j : Nat) (w : Bool),
  wantedAV ops tm (Go.Oper.mk dst op ty p af (some (j, w))) =
    match Option.bind (getElem? (valid := fun (xs : Array Go.Oper) (i : Nat) ↦ i < Array.size xs) ops j) fun (x : Go.Oper) ↦ Go.Oper.dst x with
    | some d => wnt w (getElem? (valid := fun (as : List AV) (i : Nat) ↦ i < List.length as) tm d)
    | none => some false))) ∧ ((wnt true (some (AV.v (Go.Value.bool true))) = some true) ∧ ((wnt true (some (AV.v (Go.Value.bool false))) = some false) ∧ (wnt false (some (AV.v (Go.Value.bool true))) = some false)))) ∧ (((wnt false (some (AV.v (Go.Value.bool false))) = some true) ∧ ((∀ (w b : Bool), wnt w (some (AV.v (Go.Value.bool b))) = some (b == w)) ∧ (∀ (w : Bool), wnt w (some (AV.v Go.undef)) = some false))) ∧ (((∀ (s : FS) (fs : List Fl), rgF (some (s, fs)) = some s) ∧ (∀ (ops : Array Go.Oper) (s : FS) (fs : List Fl), rgT ops (some (s, fs)) = if (regOK ops && calm (Go.Region.before ops) fs) = true then some s else none)) ∧ ((∀ (E : Env) (ci : CI) (ops : Array Go.Oper) (s : FS), evRegion E ci ops false s = rgF (evOps E ci ops (Array.toList ops) s)) ∧ (∀ (E : Env) (ci : CI) (ops : Array Go.Oper) (s : FS), evRegion E ci ops true s = rgT ops (evOps E ci ops (Array.toList ops) s)))))) ∧ ((((∀ (f : Fl) (s : FS) (fs : List Fl), consF f (some (s, fs)) = some (s, f :: fs)) ∧ ((∀ (dst : Option Go.Tmp) (tm : Cs) (σ : Store) (low : Option Nat) (c0 : Nat) (k : FS → Option (FS × List Fl)) (y : AV) (σ' : Store) (md : Option Nat) (rd : Bool), stp dst (FS.mk tm σ low c0) k (some (OR.mk y σ' md rd)) = consF (Fl.mk (Option.isSome md) rd) (k (FS.mk (putTm tm dst y) σ' (omin low (cut c0 md)) c0))) ∧ (∀ (dst : Option Go.Tmp) (op : Go.Op) (tm : Cs) (σ : Store) (low : Option Nat) (c0 : Nat) (E : Env) (ci : CI) (k : FS → Option (FS × List Fl)), gdp dst op (FS.mk tm σ low c0) E ci k (some true) = stp dst (FS.mk tm σ low c0) k (evO (Env.T E) (Env.br E) ci (evOp (Env.gl E) tm) σ op)))) ∧ ((∀ (dst : Option Go.Tmp) (op : Go.Op) (tm : Cs) (σ : Store) (low : Option Nat) (c0 : Nat) (E : Env) (ci : CI) (k : FS → Option (FS × List Fl)), gdp dst op (FS.mk tm σ low c0) E ci k (some false) = consF (Fl.mk false false) (k (FS.mk (putTm tm dst (AV.v Go.undef)) σ low c0))) ∧ ((∀ (σ : Store) (y : AV), p1 σ (some y) = some (OR.mk y σ none false)) ∧ (∀ {T : Tab} {br : Go.FuncId → Bool} {ci : CI} {ρ : Go.Operand → AV} {σ : Store} (x : Go.Operand), evO T br ci ρ σ (Go.Op.move x) = some (OR.mk (ρ x) σ none false))))) ∧ (((∀ {T : Tab} {br : Go.FuncId → Bool} {ci : CI} {ρ : Go.Operand → AV} {σ : Store} (x : Go.Operand), evO T br ci ρ σ (Go.Op.assign x) = some (OR.mk (ρ x) σ none false)) ∧ ((∀ {T : Tab} {br : Go.FuncId → Bool} {ci : CI} {ρ : Go.Operand → AV} {σ : Store} (q a b : Go.Operand),
  evO T br ci ρ σ (Go.Op.pick q a b) =
    match ρ q with
    | AV.v (Go.Value.bool b') => some (OR.mk (if b' = true then ρ a else ρ b) σ none false)
    | x => none) ∧ (∀ {T : Tab} {br : Go.FuncId → Bool} {ci : CI} {ρ : Go.Operand → AV} {σ : Store} (op : Go.BinOp) (t u : Go.TypeId) (x y : Go.Operand), evO T br ci ρ σ (Go.Op.binOp op t x y u) = p1 σ (if (bothNil (ρ x) (ρ y) && !(constOp x || constOp y)) = true then none else evBin T op t (ρ x) (ρ y))))) ∧ (((∀ {T : Tab} {br : Go.FuncId → Bool} {ci : CI} {ρ : Go.Operand → AV} {σ : Store} (op : Go.UnOp) (t : Go.TypeId) (x : Go.Operand), evO T br ci ρ σ (Go.Op.unOp op t x) = p1 σ (evUn op (ρ x))) ∧ (∀ {T : Tab} {br : Go.FuncId → Bool} {ci : CI} {ρ : Go.Operand → AV} {σ : Store} (x : Go.Operand) (i : Nat),
  evO T br ci ρ σ (Go.Op.extract x i) =
    match ρ x with
    | AV.tup vs => p1 σ (getElem? (valid := fun (as : List AV) (i : Nat) ↦ i < List.length as) vs i)
    | x => none)) ∧ ((∀ {T : Tab} {br : Go.FuncId → Bool} {ci : CI} {ρ : Go.Operand → AV} {σ : Store} (t : Go.TypeId) (x i : Go.Operand), evO T br ci ρ σ (Go.Op.indexAddr t x i) = p1 σ (indexAddrAV T t (ρ x) (ρ i))) ∧ (∀ {T : Tab} {br : Go.FuncId → Bool} {ci : CI} {ρ : Go.Operand → AV} {σ : Store} (f : Go.Operand) (args : Array Go.Operand) (ts : Array Go.TypeId), evO T br ci ρ σ (Go.Op.call (Go.Call.mk (Go.Callee.value f) args ts)) = evCall br ci σ (ρ f) (List.map ρ (Array.toList args)))))))) ∧ (((((∀ {T : Tab} {br : Go.FuncId → Bool} {ci : CI} {ρ : Go.Operand → AV} {σ : Store} (args : Array Go.Operand) (ts : Array Go.TypeId),
  evO T br ci ρ σ (Go.Op.call (Go.Call.mk (Go.Callee.builtin Go.Builtin.append) args ts)) =
    match Array.toList args, Array.toList ts with
    | [s, x], [t, t'] => if t = t' then evAppend T σ t (ρ s) (ρ x) else none
    | x, x_1 => none) ∧ ((∀ {T : Tab} {br : Go.FuncId → Bool} {ci : CI} {ρ : Go.Operand → AV} {σ : Store} (t : Go.TypeId) (a x : Go.Operand), evO T br ci ρ σ (Go.Op.store t a x) = evStore T σ t (ρ a) (ρ x)) ∧ (∀ {T : Tab} {br : Go.FuncId → Bool} {ci : CI} {ρ : Go.Operand → AV} {σ : Store} (t : Go.TypeId) (a : Go.Operand),
  evO T br ci ρ σ (Go.Op.load t a) =
    match T t, ρ a with
    | some r, AV.vp cs => p1 σ (ldV r cs)
    | some r, x => evLoad T σ t x
    | none, x => none))) ∧ ((∀ {T : Tab} {br : Go.FuncId → Bool} {ci : CI} {ρ : Go.Operand → AV} {σ : Store} (s : Go.TypeId) (x : Go.Operand) (f : Nat),
  evO T br ci ρ σ (Go.Op.fieldAddr s x f) =
    match fieldPlaceT T s f, ρ x with
    | some (o, r), AV.vp cs => if TRow.sz r = (0 : Nat) then none else some (OR.mk (AV.vp (List.drop o cs)) σ none false)
    | some (o, r), AV.ptr id i off => if TRow.sz r = (0 : Nat) then none else some (OR.mk (AV.ptr id i (off + o)) σ none false)
    | x, x_1 => none) ∧ ((∀ {T : Tab} {br : Go.FuncId → Bool} {ci : CI} {ρ : Go.Operand → AV} {σ : Store} (t : Go.TypeId),
  evO T br ci ρ σ (Go.Op.alloc t) =
    match T t with
    | some r => if List.length (TRow.zero r) = TRow.sz r then some (OR.mk (AV.ptr (Store.clock σ) (0 : Nat) (0 : Nat)) (Store.new σ (Obj.mk (TRow.sz r) false false [List.map AV.v (TRow.zero r)])) none false) else none
    | none => none) ∧ (∀ {T : Tab} {br : Go.FuncId → Bool} {ci : CI} {ρ : Go.Operand → AV} {σ : Store} (t : Go.TypeId) (x : Go.Operand),
  evO T br ci ρ σ (Go.Op.box t x) =
    match T t with
    | some r => if List.length (cells (ρ x)) = TRow.sz r ∧ List.all (cells (ρ x)) leaf = true then some (OR.mk (AV.ptr (Store.clock σ) (0 : Nat) (0 : Nat)) (Store.new σ (Obj.mk (TRow.sz r) false false [cells (ρ x)])) none false) else none
    | none => none)))) ∧ (((∀ (σ : Store) (y : AV), viaA σ (some (y, none)) = some (OR.mk y σ none false)) ∧ ((∀ (σ : Store) (y : AV) (ob : Obj), viaA σ (some (y, some ob)) = some (OR.mk y (Store.new σ ob) none false)) ∧ (∀ {T : Tab} {br : Go.FuncId → Bool} {ci : CI} {ρ : Go.Operand → AV} {σ : Store} (t : Go.TypeId) (ps : Array (Nat × Go.Operand)), evO T br ci ρ σ (Go.Op.build t ps) = viaA σ (evA T ρ (Store.clock σ) (Go.Op.build t ps))))) ∧ (((∀ {T : Tab} {br : Go.FuncId → Bool} {ci : CI} {ρ : Go.Operand → AV} {σ : Store} (t : Go.TypeId) (n : Nat) (ps : Array (Nat × Go.Operand)), evO T br ci ρ σ (Go.Op.buildSlice t n ps) = viaA σ (evA T ρ (Store.clock σ) (Go.Op.buildSlice t n ps))) ∧ (∀ {T : Tab} {br : Go.FuncId → Bool} {ci : CI} {ρ : Go.Operand → AV} {σ : Store} (t : Go.TypeId) (a b : Go.Operand), evO T br ci ρ σ (Go.Op.makeSlice t a b) = viaA σ (evA T ρ (Store.clock σ) (Go.Op.makeSlice t a b)))) ∧ ((∀ {T : Tab} {br : Go.FuncId → Bool} {ci : CI} {ρ : Go.Operand → AV} {σ : Store} (a b : Go.TypeId) (x : Go.Operand), evO T br ci ρ σ (Go.Op.convert a b x) = viaA σ (evA T ρ (Store.clock σ) (Go.Op.convert a b x))) ∧ (∀ {T : Tab} {br : Go.FuncId → Bool} {ci : CI} {ρ : Go.Operand → AV} {σ : Store} (t : Go.TypeId) (x : Go.Operand) (f : Nat), evO T br ci ρ σ (Go.Op.field t x f) = viaA σ (evA T ρ (Store.clock σ) (Go.Op.field t x f))))))) ∧ ((((∀ {T : Tab} {br : Go.FuncId → Bool} {ci : CI} {ρ : Go.Operand → AV} {σ : Store} (t : Go.TypeId) (x : Go.Operand) (a b c : Option Go.Operand), evO T br ci ρ σ (Go.Op.slice t x a b c) = viaA σ (evA T ρ (Store.clock σ) (Go.Op.slice t x a b c))) ∧ ((∀ {T : Tab} {br : Go.FuncId → Bool} {ci : CI} {ρ : Go.Operand → AV} {σ : Store} (t : Go.TypeId) (x i : Go.Operand), evO T br ci ρ σ (Go.Op.index t x i) = viaA σ (evA T ρ (Store.clock σ) (Go.Op.index t x i))) ∧ (∀ {T : Tab} {br : Go.FuncId → Bool} {ci : CI} {ρ : Go.Operand → AV} {σ : Store} (x : Go.Operand), evO T br ci ρ σ (Go.Op.nilCheck x) = viaA σ (evA T ρ (Store.clock σ) (Go.Op.nilCheck x))))) ∧ (((∀ {T : Tab} {br : Go.FuncId → Bool} {ci : CI} {ρ : Go.Operand → AV} {σ : Store} (f : Go.Fn) (a b : Array Go.Operand), evO T br ci ρ σ (Go.Op.makeFunc f a b) = viaA σ (evA T ρ (Store.clock σ) (Go.Op.makeFunc f a b))) ∧ (∀ {T : Tab} {br : Go.FuncId → Bool} {ci : CI} {ρ : Go.Operand → AV} {σ : Store} (t : Go.TypeId) (x : Go.Operand), evO T br ci ρ σ (Go.Op.makeInterface t x) = viaA σ (evA T ρ (Store.clock σ) (Go.Op.makeInterface t x)))) ∧ ((∀ {T : Tab} {br : Go.FuncId → Bool} {ci : CI} {ρ : Go.Operand → AV} {σ : Store} (a : Array Go.Operand) (t : Array Go.TypeId), evO T br ci ρ σ (Go.Op.call (Go.Call.mk (Go.Callee.builtin Go.Builtin.len) a t)) = viaA σ (evA T ρ (Store.clock σ) (Go.Op.call (Go.Call.mk (Go.Callee.builtin Go.Builtin.len) a t)))) ∧ (∀ {T : Tab} {br : Go.FuncId → Bool} {ci : CI} {ρ : Go.Operand → AV} {σ : Store} (a : Array Go.Operand) (t : Array Go.TypeId), evO T br ci ρ σ (Go.Op.call (Go.Call.mk (Go.Callee.builtin Go.Builtin.min) a t)) = viaA σ (evA T ρ (Store.clock σ) (Go.Op.call (Go.Call.mk (Go.Callee.builtin Go.Builtin.min) a t))))))) ∧ (((∀ {T : Tab} {br : Go.FuncId → Bool} {ci : CI} {ρ : Go.Operand → AV} {σ : Store} (a : Array Go.Operand) (t : Array Go.TypeId), evO T br ci ρ σ (Go.Op.call (Go.Call.mk (Go.Callee.builtin Go.Builtin.max) a t)) = viaA σ (evA T ρ (Store.clock σ) (Go.Op.call (Go.Call.mk (Go.Callee.builtin Go.Builtin.max) a t)))) ∧ ((cells AV.emp = [AV.emp]) ∧ (leaf AV.emp = true))) ∧ (((pl AV.emp = true) ∧ (∀ (σ : Store) (n : Nat), rowIds σ n AV.emp = [])) ∧ ((∀ (σ : Store) (n : Nat), reify σ n AV.emp = some (AV.sl [])) ∧ (∀ (σ : Store), importAV σ AV.emp = (AV.emp, σ)))))))))) :=
  (And.intro (And.intro (And.intro (And.intro (And.intro (And.intro (And.intro @andThen_nrm (And.intro @pick_bool @Option.map_some.{0, 0})) (And.intro @omin_right (And.intro @omin_left @omin_nn))) (And.intro (And.intro @cut_none (And.intro @cut_zero @Option.bind_some.{0, 0})) (And.intro (And.intro @List.length_map.{0, 0} @Bool.false_and) (And.intro @Bool.not_true @Bool.and_false)))) (And.intro (And.intro (And.intro @if_false.{0} (And.intro @if_true.{0} @Bool.or_false)) (And.intro @Bool.not_false (And.intro @Bool.and_true @Bool.true_and))) (And.intro (And.intro @Option.isSome_none.{0} (And.intro @Option.isSome_some.{0} @List.length_cons.{0})) (And.intro (And.intro @List.length_nil.{0} @List.take_succ_cons.{0}) (And.intro @List.take_zero.{0} @List.drop_zero.{0}))))) (And.intro (And.intro (And.intro (And.intro @List.drop_succ_cons.{0} (And.intro @Nat.zero_add @Nat.le_refl)) (And.intro @decide_true (And.intro @decide_false @List.append_nil.{0}))) (And.intro (And.intro @List.nil_append.{0} (And.intro @List.cons_append.{0} @bb_true)) (And.intro (And.intro @bb_false @cells_agg) (And.intro @cells_int @cells_bool)))) (And.intro (And.intro (And.intro @cells_str (And.intro @cells_nil @cells_nilp)) (And.intro @cells_sl (And.intro @cells_row @cells_ptr))) (And.intro (And.intro @St_clock (And.intro @St_ob @St_new)) (And.intro (And.intro @Nat.left_eq_add @Nat.add_eq_left) (And.intro @Nat.add_left_cancel_iff @eq_self.{0})))))) (And.intro (And.intro (And.intro (And.intro (And.intro @Nat.succ_ne_self (And.intro @slice_all @slice_map)) (And.intro @slice_one (And.intro @slice_nil @List.take_append_drop.{0}))) (And.intro (And.intro @List.all_cons.{0} (And.intro @List.all_nil.{0} @beq_self_eq_true.{0})) (And.intro (And.intro @and_self @List.length_set.{0}) (And.intro @List.map_cons.{0, 0} @List.map_nil.{0, 0})))) (And.intro (And.intro (And.intro @List.range_succ (And.intro @List.range_zero @List.length_append.{0})) (And.intro @leaf_int (And.intro @leaf_bool @leaf_str))) (And.intro (And.intro @leaf_nil (And.intro @leaf_nilp @leaf_sl)) (And.intro (And.intro @leaf_row @pl_int) (And.intro @pl_bool @pl_str))))) (And.intro (And.intro (And.intro (And.intro @pl_nil (And.intro @pl_nilp @pl_sl)) (And.intro @pl_row (And.intro @Nat.one_ne_zero @false_implies))) (And.intro (And.intro @implies_true.{0} (And.intro @forall_const.{0} @not_false_eq_true)) (And.intro (And.intro @List.toList_toArray.{0} @true_and) (And.intro @and_true @List.zip_cons_cons.{0, 0})))) (And.intro (And.intro (And.intro @List.set_cons_zero.{0} (And.intro @List.set_cons_succ.{0} @List.getD_cons_zero.{0})) (And.intro (And.intro @List.getD_cons_succ.{0} @Int.toNat_natCast) (And.intro @slice_drop @Int.natCast_nonneg))) (And.intro (And.intro @List.length_drop.{0} (And.intro @Option.map_none.{0, 0} @List.flatMap_cons.{0, 0})) (And.intro (And.intro @List.flatMap_nil.{0, 0} @rowIds_v) (And.intro @rowIds_sl @rowIds_row))))))) (And.intro (And.intro (And.intro (And.intro (And.intro (And.intro @rowIds_agg (And.intro @shareAll_nil @shareAll_cons)) (And.intro @freshL_nil (And.intro @reify_row @List.foldl_cons.{0, 0}))) (And.intro (And.intro @List.foldl_nil.{0, 0} (And.intro @reify_int @reify_bool)) (And.intro (And.intro @reify_str @reify_nil) (And.intro @reify_nilp @reify_sl)))) (And.intro (And.intro (And.intro @reify_agg (And.intro @importAV_v @importAV_sl)) (And.intro @importAV_own (And.intro @importAV_agg @importAV_tup))) (And.intro (And.intro @drop_map (And.intro @take_map @getD_some)) (And.intro (And.intro @decide_eq_true_eq @List.append_eq.{0}) (And.intro @List.nodup_nil.{0} @List.nodup_cons.{0}))))) (And.intro (And.intro (And.intro (And.intro @List.not_mem_nil.{0} (And.intro @slice_ge @cInt_eq)) (And.intro @cBool_eq (And.intro @cStr_eq @cSl_eq))) (And.intro (And.intro @len_cInt (And.intro @len_cBool @len_cStr)) (And.intro (And.intro @len_cSl @leaf_ptr) (And.intro @setL_len @List.flatMap_nil.{0, 0})))) (And.intro (And.intro (And.intro @St_put (And.intro @List.getElem?_toArray.{0} @List.getElem?_cons_zero.{0})) (And.intro (And.intro @List.getElem?_cons_succ.{0} @List.getElem?_map.{0, 0}) (And.intro @List.getElem?_nil.{0} @ite_some))) (And.intro (And.intro @cells_own (And.intro @false_or @or_false)) (And.intro (And.intro @or_true @true_or) (And.intro @Nat.sub_zero @evOps_nil)))))) (And.intro (And.intro (And.intro (And.intro (And.intro @evOps_plain (And.intro @evOps_guard @wanted_at)) (And.intro @wnt_tt (And.intro @wnt_tf @wnt_ft))) (And.intro (And.intro @wnt_ff (And.intro @wnt_b @wnt_u)) (And.intro (And.intro @rgF_some @rgT_some) (And.intro @evRegion_f @evRegion_t)))) (And.intro (And.intro (And.intro @consF_some (And.intro @stp_some @gdp_true)) (And.intro @gdp_false (And.intro @p1_some @evO_move))) (And.intro (And.intro @evO_assign (And.intro @evO_pick @evO_bin)) (And.intro (And.intro @evO_un @evO_extract) (And.intro @evO_indexAddr @evO_call))))) (And.intro (And.intro (And.intro (And.intro @evO_append (And.intro @evO_store @evO_load)) (And.intro @evO_fieldAddr (And.intro @evO_alloc @evO_box))) (And.intro (And.intro @viaA_1 (And.intro @viaA_2 @evO_build)) (And.intro (And.intro @evO_buildSlice @evO_makeSlice) (And.intro @evO_convert @evO_field)))) (And.intro (And.intro (And.intro @evO_slice (And.intro @evO_index @evO_nilCheck)) (And.intro (And.intro @evO_makeFunc @evO_makeInterface) (And.intro @evO_len @evO_min))) (And.intro (And.intro @evO_max (And.intro @cells_emp @leaf_emp)) (And.intro (And.intro @pl_emp @rowIds_emp) (And.intro @reify_emp @importAV_emp))))))))
theorem bxw :
  (((((∀ {α β : Type} {f : α → β} {l₁ l₂ : List α}, List.map f (l₁ ++ l₂) = List.map f l₁ ++ List.map f l₂) ∧ ((∀ {α β : Type} {f : α → β} {a : α} {l : List α}, List.map f (a :: l) = f a :: List.map f l) ∧ (∀ {α β : Type} {f : α → β}, List.map f [] = []))) ∧ ((∀ (k : Go.IntKind) (n : Int), cInt k n = [AV.v (Go.Value.int k n)]) ∧ ((∀ (b : Bool), cBool b = [AV.v (Go.Value.bool b)]) ∧ (∀ (s : Str), cStr s = [AV.v (Go.Value.string (mkS s))])))) ∧ (((∀ {α : Type} (c : α → Cs) (l : List α), cSl c l = [AV.sl (List.map c l)]) ∧ ((∀ {α : Type} {as bs : List α}, List.length (as ++ bs) = List.length as + List.length bs) ∧ (∀ {α β : Type} {as : List α} (f : α → β), List.length (List.map f as) = List.length as))) ∧ (((∀ {α : Type} {a : α} {as : List α}, List.length (a :: as) = List.length as + (1 : Nat)) ∧ (∀ {α : Type}, List.length (α := α) [] = (0 : Nat))) ∧ ((∀ {α : Type} (as bs cs : List α), as ++ bs ++ cs = as ++ (bs ++ cs)) ∧ (∀ {α : Type} (as : List α), [] ++ as = as))))) ∧ ((((∀ {α : Type} (as : List α), as ++ [] = as) ∧ ((∀ {α : Type} {a : α} {as bs : List α}, a :: as ++ bs = a :: (as ++ bs)) ∧ (∀ (n : Nat), (0 : Nat) + n = n))) ∧ (((∀ (n : Nat), n + (0 : Nat) = n) ∧ (∀ {α β : Type} {f : α → β} {l : List α} {i : Nat}, List.map f (List.drop i l) = List.drop i (List.map f l))) ∧ ((∀ {α β : Type} {f : α → β} {l : List α} {i : Nat}, List.map f (List.take i l) = List.take i (List.map f l)) ∧ (∀ {n : Nat} {α : Type} {a : α} {α_1 : Type} {f : α → α_1}, List.map f (List.replicate n a) = List.replicate n (f a))))) ∧ (((∀ {α : Type} (i : Nat) (l : List α), List.take i l ++ List.drop i l = l) ∧ ((∀ {α : Type} {l : List α}, List.drop (0 : Nat) l = l) ∧ (Int.toNat (0 : Int) = (0 : Nat)))) ∧ (((∀ (n : Nat), n - (0 : Nat) = n) ∧ (∀ {α : Type} (l : List α) (i : Int) (x : α), setL l i x = List.set l (Int.toNat i) x)) ∧ ((∀ {α β : Type} {f : α → β} {l : List α} {i : Nat} {a : α}, List.map f (List.set l i a) = List.set (List.map f l) i (f a)) ∧ (∀ {α : Type} {as : List α} {i : Nat} {a : α}, List.length (List.set as i a) = List.length as)))))) :=
  (And.intro (And.intro (And.intro (And.intro @List.map_append.{0, 0} (And.intro @List.map_cons.{0, 0} @List.map_nil.{0, 0})) (And.intro @cInt_eq (And.intro @cBool_eq @cStr_eq))) (And.intro (And.intro @cSl_eq (And.intro @List.length_append.{0} @List.length_map.{0, 0})) (And.intro (And.intro @List.length_cons.{0} @List.length_nil.{0}) (And.intro @List.append_assoc.{0} @List.nil_append.{0})))) (And.intro (And.intro (And.intro @List.append_nil.{0} (And.intro @List.cons_append.{0} @Nat.zero_add)) (And.intro (And.intro @Nat.add_zero @List.map_drop.{0, 0}) (And.intro @List.map_take.{0, 0} @List.map_replicate.{0, 0}))) (And.intro (And.intro @List.take_append_drop.{0} (And.intro @List.drop_zero.{0} @Int.toNat_zero)) (And.intro (And.intro @Nat.sub_zero @setL_eq) (And.intro @List.map_set.{0, 0} @List.length_set.{0})))))
theorem jjs :
  ((∀ (l : Cs), jj (0 : Nat) l = l) ∧ (∀ (n : Nat) (l : Cs), jj (n + (1 : Nat)) l = AV.junk :: jj n l)) :=
  (And.intro @jj_0 @jj_s)
end Go.Bx

/- From a law's reading to plain data, and from a contract to the law's call. (Own text.) -/
namespace Go.Bx
set_option linter.unusedVariables false
set_option linter.unusedSimpArgs false
set_option linter.unusedSectionVars false
open Go.RowKit
set_option linter.unusedVariables false

theorem list_of {α : Type} {c : α → Cs} {P : α → Prop} : ∀ {es : List Cs}, (∀ e ∈ es, ∃ x, e = c x ∧ P x) → ∃ l : List α, es = l.map c ∧ ∀ x ∈ l, P x
  | [], _ => ⟨[], rfl, fun x h => by cases h⟩
  | e :: es, h => by
    obtain ⟨x, hx, hp⟩ := h e (by simp)
    obtain ⟨l, hl, hq⟩ := list_of (es := es) (fun y hy => h y (by simp [hy]))
    exact ⟨x :: l, by rw [hx, hl]; rfl, fun y hy => by
      rcases List.mem_cons.1 hy with rfl | hy
      · exact hp
      · exact hq y hy⟩

section
variable {H : Type} {T : Tab} {n : Nat} {t : TypeId} {xs : Cs} {d : DataW H}
theorem shape_int {k : IntKind} (ht : tdesc T t = some (.int k)) (h : Shape T (n + 1) t xs d) : ∃ z, xs = cInt k z ∧ (Lit.int k z).wf = true := by
  unfold Shape at h; rw [ht] at h
  obtain ⟨z, h1, h2, h3⟩ := h; exact ⟨z, h1, h3⟩
theorem shape_bool (ht : tdesc T t = some .bool) (h : Shape T (n + 1) t xs d) : ∃ b, xs = cBool b := by
  unfold Shape at h; rw [ht] at h
  obtain ⟨z, h1, h2⟩ := h; exact ⟨z, h1⟩
theorem shape_str (ht : tdesc T t = some .str) (h : Shape T (n + 1) t xs d) : ∃ s : Str, xs = cStr s ∧ s.length ≤ reachBytes := by
  unfold Shape at h; rw [ht] at h
  obtain ⟨⟨⟨z⟩⟩, h1, h2, h3⟩ := h
  exact ⟨z, h1, h3⟩
theorem shape_slice {e : TypeId} {r : TRow} (ht : tdesc T t = some (.slice e)) (hr : T e = some r) {α : Type} (c : α → Cs) (P : α → Prop) (he : ∀ ys (y : DataW H), Shape T n e ys y → ∃ x, ys = c x ∧ P x) (h : Shape T (n + 1) t xs d) :
    ∃ l : List α, xs = [.sl (l.map c)] ∧ l.length * r.bytes ≤ reachBytes ∧ ∀ x ∈ l, P x := by
  unfold Shape at h; rw [ht] at h
  obtain ⟨es, h1, h2, h3⟩ := h
  have key : ∀ e ∈ es, ∃ x, e = c x ∧ P x := by
    rcases h3 with ⟨rfl, _⟩ | ⟨ds, rest, _, hl, hh⟩
    · intro e he; cases he
    · intro e' he'
      obtain ⟨i, hi⟩ := List.mem_iff_getElem?.1 he'
      have hlt := (List.getElem?_eq_some_iff.1 hi).1
      exact he _ _ (hh i e' (ds[i]'(by omega)) hi (by simp))
  obtain ⟨l, rfl, hp⟩ := list_of key
  exact ⟨l, h1, by simpa using h2 r hr, hp⟩
theorem shape_struct {fs : List (Nat × TypeId)} (ht : tdesc T t = some (.struct fs)) (h : Shape T (n + 1) t xs d) : ∃ ds : List (DataW H), ShapeF (fun t p (d : DataW H) => Shape T n t p d) fs xs ds := by
  unfold Shape at h; rw [ht] at h
  obtain ⟨ds, _, h1⟩ := h; exact ⟨ds, h1⟩
end
theorem shapeF_cons {H : Type} {S : TypeId → Cs → DataW H → Prop} {o : Nat} {t : TypeId} {fs : List (Nat × TypeId)} {xs : Cs} {ds : List (DataW H)} (h : ShapeF S ((o, t) :: fs) xs ds) : ∃ p q d r, xs = p ++ q ∧ S t p d ∧ ShapeF S fs q r := by
  obtain ⟨p, q, d, r, h1, _, h2, h3⟩ := h; exact ⟨p, q, d, r, h1, h2, h3⟩
theorem shapeF_nil {H : Type} {S : TypeId → Cs → DataW H → Prop} {xs : Cs} {ds : List (DataW H)} (h : ShapeF S [] xs ds) : xs = [] := h.1

theorem law_pure {E : Env} {W : World} (hG : GlOK E (rdCtx W)) {f : FuncId} {xs : Cs} {us : List Value} {b : Bool} (h : PureOK E f xs (.v (.bool b))) (hus : Reps (rdCtx W) xs us) :
    Calls E.P f us.toArray W fun e W' => e = .returned (.bool b) ∧ Below W.heap.size W W' := by
  obtain ⟨_, _, _, hc⟩ := h W.heap.size nilStore
  refine (hc (rdCtx W) us (rdInv W) hG hus).2.mono ?_
  rintro e w' ⟨v, c', rfl, rfl, he, _, hr, hf⟩
  have hr' : Rep c' (.v (.bool b)) v := hr
  refine ⟨by cases hr'; rfl, he.os, he.tape, he.output, he.size, fun k hk => hf.block k hk (fun id o L ho => by cases ho)⟩
end Go.Bx

/- Runs of forgotten slots, kept folded. (Own text.) -/
namespace Go.Bx
set_option linter.unusedVariables false
set_option linter.unusedSimpArgs false
set_option linter.unusedSectionVars false

theorem jj_length : ∀ (n : Nat) (l : Cs), (jj n l).length = n + l.length
  | 0, l => by rw [jj_0, Nat.zero_add]
  | n + 1, l => by rw [jj_s, List.length_cons, jj_length n l]; omega
theorem jj_get_ge : ∀ {n i : Nat} {l : Cs}, n ≤ i → (jj n l)[i]? = l[i - n]?
  | 0, i, l, _ => by rw [jj_0, Nat.sub_zero]
  | n + 1, 0, l, h => by omega
  | n + 1, i + 1, l, h => by rw [jj_s, List.getElem?_cons_succ, jj_get_ge (by omega), Nat.add_sub_add_right]
theorem jj_get_lt : ∀ {n i : Nat} {l : Cs}, i < n → (jj n l)[i]? = some .junk
  | 0, i, l, h => by omega
  | n + 1, 0, l, h => by rw [jj_s, List.getElem?_cons_zero]
  | n + 1, i + 1, l, h => by rw [jj_s, List.getElem?_cons_succ, jj_get_lt (by omega)]
theorem jj_getD_ge {n i : Nat} {l : Cs} {d : AV} (h : n ≤ i) : (jj n l).getD i d = l.getD (i - n) d := by rw [List.getD_eq_getElem?_getD, jj_get_ge h, ← List.getD_eq_getElem?_getD]
theorem jj_getD_lt {n i : Nat} {l : Cs} {d : AV} (h : i < n) : (jj n l).getD i d = .junk := by rw [List.getD_eq_getElem?_getD, jj_get_lt h]; rfl
theorem jj_set_ge : ∀ {n i : Nat} {l : Cs} {v : AV}, n ≤ i → (jj n l).set i v = jj n (l.set (i - n) v)
  | 0, i, l, v, _ => by rw [jj_0, jj_0, Nat.sub_zero]
  | n + 1, 0, l, v, h => by omega
  | n + 1, i + 1, l, v, h => by rw [jj_s, List.set_cons_succ, jj_set_ge (by omega), Nat.add_sub_add_right, jj_s]
theorem jj_set_lt : ∀ {n i : Nat} {l : Cs} {v : AV}, i < n → (jj n l).set i v = jj i (v :: jj (n - i - 1) l)
  | 0, i, l, v, h => by omega
  | n + 1, 0, l, v, h => by rw [jj_s, List.set_cons_zero, jj_0]; rfl
  | n + 1, i + 1, l, v, h => by rw [jj_s, List.set_cons_succ, jj_set_lt (by omega), jj_s, Nat.add_sub_add_right]
theorem jj_drop_le : ∀ {n k : Nat} {l : Cs}, k ≤ n → (jj n l).drop k = jj (n - k) l
  | n, 0, l, _ => by rw [List.drop_zero, Nat.sub_zero]
  | 0, k + 1, l, h => by omega
  | n + 1, k + 1, l, h => by rw [jj_s, List.drop_succ_cons, jj_drop_le (by omega), Nat.add_sub_add_right]
theorem jj_drop_ge : ∀ {n k : Nat} {l : Cs}, n ≤ k → (jj n l).drop k = l.drop (k - n)
  | 0, k, l, _ => by rw [jj_0, Nat.sub_zero]
  | n + 1, 0, l, h => by omega
  | n + 1, k + 1, l, h => by rw [jj_s, List.drop_succ_cons, jj_drop_ge (by omega), Nat.add_sub_add_right]
/-! Without premises: the number tells. -/
theorem jj_getD (n i : Nat) (l : Cs) (d : AV) : (jj n l).getD i d = if n ≤ i then l.getD (i - n) d else .junk := by
  split
  · exact jj_getD_ge ‹_›
  · exact jj_getD_lt (by omega)
theorem jj_get (n i : Nat) (l : Cs) : (jj n l)[i]? = if n ≤ i then l[i - n]? else some .junk := by
  split
  · exact jj_get_ge ‹_›
  · exact jj_get_lt (by omega)
theorem jj_set (n i : Nat) (l : Cs) (v : AV) : (jj n l).set i v = if n ≤ i then jj n (l.set (i - n) v) else jj i (v :: jj (n - i - 1) l) := by
  split
  · exact jj_set_ge ‹_›
  · exact jj_set_lt (by omega)
theorem jj_drop (n k : Nat) (l : Cs) : (jj n l).drop k = if k ≤ n then jj (n - k) l else l.drop (k - n) := by
  split
  · exact jj_drop_le ‹_›
  · exact jj_drop_ge (by omega)
theorem WVs.jjT {σ : Store} {ρ : Nat → Option Nat} {vt : Nat → Bool} {ys : Cs} : ∀ {n : Nat} {xs : Cs}, n ≤ xs.length → WVs σ ρ vt (xs.drop n) ys → WVs σ ρ vt xs (jj n ys)
  | 0, xs, _, h => by rw [jj_0]; rwa [List.drop_zero] at h
  | n + 1, [], hn, _ => by simp at hn
  | n + 1, x :: xs, hn, h => by
    rw [jj_s]; rw [List.drop_succ_cons] at h
    exact .cons (.junk _) (WVs.jjT (by simpa using hn) h)
/-- A region that draws its order: the operations, and apart from them what the order asks. -/
theorem Wp.regionT {E : Env} {base : Nat} {c00 : Ctx} {σ00 : Store} {s : FS} {R : Post} (hU : Under E base c00 σ00) {ci : CI} (hci : CIOK E base ci) {id : Nat} {ops : Array Oper} {s1 : FS} {fs : List Fl} (h : evOps E ci ops ops.toList s = some (s1, fs))
    (hq : (regOK ops && calm (Region.before ops) fs) = true) (k : R .nrm s1) : Wp E base c00 σ00 (.region id ops true) s R := Wp.region hU hci (by simp only [evRegion, h, if_true, if_pos hq]) k
end Go.Bx
