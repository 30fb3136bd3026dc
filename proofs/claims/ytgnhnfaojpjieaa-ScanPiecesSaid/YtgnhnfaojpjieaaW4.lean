/- What the program's functions compute, shown of their code (W4). Own text; parts are printed by a program of this claim's author. -/
import Derived.Test.YtgnhnfaojpjieaaW3
/- nats.QuoRem: that it divides, in plain Lean. (Own text.) -/
namespace Go.Bx.Scan
set_option linter.unusedVariables false
set_option linter.unusedSimpArgs false
set_option linter.unusedSectionVars false
open Go.Proofs
set_option linter.unusedVariables false
set_option linter.unusedSimpArgs false

/-! ### the guess -/
theorem guess_over {U V L LU P g r v1 v2 t u2 : Int} (hV : V = L + P * (v2 + 4294967296 * v1)) (hU : U = LU + P * (u2 + 4294967296 * t)) (hL : 0 ≤ L) (hLU : LU < P) (hP : 0 < P) (hg : 0 ≤ g) (ht : g * v1 + r = t) (h : r * 4294967296 + u2 < g * v2) : U < g * V := by
  have h1 : P * (u2 + 4294967296 * t + 1) ≤ P * (g * v2 + 4294967296 * (g * v1)) := Int.mul_le_mul_of_nonneg_left (by omega) (by omega)
  have h2 : 0 ≤ g * L := Int.mul_nonneg hg hL
  have h3 : g * V = g * L + P * (g * v2 + 4294967296 * (g * v1)) := by rw [hV]; grind
  have h4 : P * (u2 + 4294967296 * t + 1) = P * (u2 + 4294967296 * t) + P := by grind
  omega
theorem guess_ok {U V L LU P g r v1 v2 t u2 : Int} (hV : V = L + P * (v2 + 4294967296 * v1)) (hU : U = LU + P * (u2 + 4294967296 * t)) (hL : 0 ≤ L) (hLP : L < P) (hLU : 0 ≤ LU) (hP : 0 < P) (hg : 0 ≤ g) (hgB : g ≤ 4294967296) (hv1 : 1 ≤ v1) (hv2 : 0 ≤ v2) (ht : g * v1 + r = t) (h : g * v2 ≤ r * 4294967296 + u2) : (g - 1) * V ≤ U := by
  have h1 : P * (g * v2 + 4294967296 * (g * v1)) ≤ P * (u2 + 4294967296 * t) := Int.mul_le_mul_of_nonneg_left (by omega) (by omega)
  have h3 : g * V = g * L + P * (g * v2 + 4294967296 * (g * v1)) := by rw [hV]; grind
  have h4 : g * L ≤ 4294967296 * L := Int.mul_le_mul_of_nonneg_right hgB hL
  have h5 : P * 4294967296 ≤ P * (v2 + 4294967296 * v1) := Int.mul_le_mul_of_nonneg_left (by omega) (by omega)
  have h6 : (g - 1) * V = g * V - V := by grind
  omega
theorem top_le {U V L LU P v1 v2 u0 u1 u2 : Int} (hV : V = L + P * (v2 + 4294967296 * v1)) (hU : U = LU + P * (u2 + 4294967296 * (u0 * 4294967296 + u1))) (hLP : L < P) (hLU : 0 ≤ LU) (hP : 0 < P) (hu1 : 0 ≤ u1) (hu2 : 0 ≤ u2) (hv2 : v2 < 4294967296) (h : U < V * 4294967296) : u0 ≤ v1 := by
  apply Classical.byContradiction
  intro hc
  have h1 : P * (4294967296 * (v1 + 1) * 4294967296) ≤ P * (u2 + 4294967296 * (u0 * 4294967296 + u1)) := Int.mul_le_mul_of_nonneg_left (by omega) (by omega)
  have h2 : P * (v2 + 4294967296 * v1 + 1) ≤ P * (4294967296 * (v1 + 1)) := Int.mul_le_mul_of_nonneg_left (by omega) (by omega)
  have h3 : P * (v2 + 4294967296 * v1 + 1) = P * (v2 + 4294967296 * v1) + P := by grind
  have h4 : P * (4294967296 * (v1 + 1) * 4294967296) = P * (4294967296 * (v1 + 1)) * 4294967296 := by grind
  omega
theorem guess_far {g r v1 v2 u0 u1 u2 : Int} (hu0 : u0 ≤ v1) (hu1 : u1 < 4294967296) (hu2 : 0 ≤ u2) (hv1 : 0 < v1) (hv2 : 0 ≤ v2 ∧ v2 < 4294967296) (hg : 0 ≤ g) (ht : g * v1 + r = u0 * 4294967296 + u1) (hr : 4294967296 ≤ r) : g < 4294967296 ∧ g * v2 ≤ r * 4294967296 + u2 := by
  have h1 : g < 4294967296 := by
    apply Classical.byContradiction
    intro hc
    have : 4294967296 * v1 ≤ g * v1 := Int.mul_le_mul_of_nonneg_right (by omega) (by omega)
    omega
  have h2 : g * v2 ≤ g * 4294967296 := Int.mul_le_mul_of_nonneg_left (by omega) hg
  exact ⟨h1, by omega⟩

section
variable {U V L LU P v1 v2 u0 u1 u2 : Int}
/-- The guess's loop. -/
theorem f77_l0_eq (pre w v : List Int) (m : Nat) (hv : v.length = m + 2) (hw : m + 3 ≤ w.length) (hs : v.length < 1000000000) (h1 : v[m + 1]? = some v1) (h2 : v[m]? = some v2) (h3 : w[m]? = some u2)
    (hV : V = L + P * (v2 + 4294967296 * v1)) (hU : U = LU + P * (u2 + 4294967296 * (u0 * 4294967296 + u1))) (hL : 0 ≤ L) (hLP : L < P) (hLU : 0 ≤ LU) (hLUP : LU < P) (hV0 : 0 < V) (hUB : U < V * 4294967296)
    (hv1 : 0 < v1 ∧ v1 < 4294967296) (hv2 : 0 ≤ v2 ∧ v2 < 4294967296) (hu0 : 0 ≤ u0) (hu1 : 0 ≤ u1 ∧ u1 < 4294967296) (hu2 : 0 ≤ u2 ∧ u2 < 4294967296) : ∀ (k : Nat) (g r : Int), g.toNat ≤ k → 0 ≤ g → g < 18446744073709551616 → 0 ≤ r → r < 4294967296 →
    g * v1 + r = u0 * 4294967296 + u1 → U / V ≤ g → ∃ g', f77_l0 (pre ++ w) pre.length (m + 3) v g r = some g' ∧ U / V ≤ g' ∧ g' ≤ U / V + 1 ∧ 0 ≤ g' ∧ g' < 4294967296
  | k, g, r, hk, hg, hg2, hr, hr2, ht, hq => by
    have hP : 0 < P := by omega
    have htop := top_le hV hU hLP hLU hP hu1.1 hu2.1 hv2.2 hUB
    have hqB : U / V < 4294967296 := Int.ediv_lt_of_lt_mul hV0 (by rw [Int.mul_comm]; exact hUB)
    have hq0 : 0 ≤ U / V := Int.ediv_nonneg (by
      rw [hU]; have : 0 ≤ P * (u2 + 4294967296 * (u0 * 4294967296 + u1)) := Int.mul_nonneg (by omega) (by omega)
      omega) (by omega)
    have e1 : IntKind.i64.wrap ((v.length : Int) - 1) = ((m + 1 : Nat) : Int) := by rw [w64 (by omega) (by omega)]; omega
    have e2 : IntKind.i64.wrap ((v.length : Int) - 2) = ((m : Nat) : Int) := by rw [w64 (by omega) (by omega)]; omega
    have d1 : rd v ((m + 1 : Nat) : Int) = some v1 := rd_of h1
    have d2 : rd v ((m : Nat) : Int) = some v2 := rd_of h2
    have d3 : rdo (pre ++ w) pre.length (m + 3) ((m : Nat) : Int) = some u2 := by
      unfold rdo
      rw [if_pos ⟨by omega, by omega⟩]
      have : pre.length + ((m : Int)).toNat = pre.length + m := by omega
      rw [this, List.getElem?_append_right (by omega), Nat.add_sub_cancel_left]; exact h3
    have w1 : IntKind.u64.wrap v1 = v1 := wu64 (by omega) (by omega)
    have w2 : IntKind.u64.wrap v2 = v2 := wu64 (by omega) (by omega)
    have w3 : IntKind.u64.wrap u2 = u2 := wu64 (by omega) (by omega)
    have w4 : IntKind.u64.wrap (r + v1) = r + v1 := wu64 (by omega) (by omega)
    -- one less
    have down : U / V < g → IntKind.u64.wrap (g - 1) = g - 1 ∧ (if decide (r + v1 ≥ 4294967296) = true then some (g - 1) else f77_l0 (pre ++ w) pre.length (m + 3) v (g - 1) (r + v1)) = (if decide (r + v1 ≥ 4294967296) = true then some (g - 1) else f77_l0 (pre ++ w) pre.length (m + 3) v (g - 1) (r + v1)) ∧
        ∃ g', (if decide (r + v1 ≥ 4294967296) = true then some (g - 1) else f77_l0 (pre ++ w) pre.length (m + 3) v (g - 1) (r + v1)) = some g' ∧ U / V ≤ g' ∧ g' ≤ U / V + 1 ∧ 0 ≤ g' ∧ g' < 4294967296 := fun hlt => by
      refine ⟨wu64 (by omega) (by omega), rfl, ?_⟩
      have ht' : (g - 1) * v1 + (r + v1) = u0 * 4294967296 + u1 := by rw [← ht]; grind
      by_cases hc : r + v1 ≥ 4294967296
      · rw [if_pos (by simpa using hc)]
        obtain ⟨a, b⟩ := guess_far htop hu1.2 hu2.1 hv1.1 hv2 (by omega) ht' hc
        have c := guess_ok hV hU hL hLP hLU hP (by omega) (by omega) (by omega) hv2.1 ht' b
        have d : g - 1 - 1 ≤ U / V := Int.le_ediv_of_mul_le hV0 c
        exact ⟨g - 1, rfl, by omega, by omega, by omega, a⟩
      · rw [if_neg (by simpa using hc)]
        match k with
        | 0 => omega
        | k + 1 => exact f77_l0_eq pre w v m hv hw hs h1 h2 h3 hV hU hL hLP hLU hLUP hV0 hUB hv1 hv2 hu0 hu1 hu2 k (g - 1) (r + v1) (by omega) (by omega) (by omega) (by omega) (by omega) ht' (by omega)
    rw [f77_l0]
    by_cases hgB : g ≥ 4294967296
    · rw [if_pos (by simpa using hgB), e1, d1]
      simp only [bind_ok]
      obtain ⟨a, _, b⟩ := down (by omega)
      rw [w1, w4, a]; exact b
    · rw [if_neg (by simpa using hgB), e2, e1, d2, d3]
      simp only [bind_ok]
      have hgv : 0 ≤ g * v2 := Int.mul_nonneg hg hv2.1
      have hgv2 : g * v2 ≤ 4294967296 * v2 := Int.mul_le_mul_of_nonneg_right (by omega) hv2.1
      rw [w2, w3, wu64 hgv (by omega), shl32 hr hr2, or64 hr hr2 hu2.1 hu2.2]
      by_cases hc : g * v2 > r * 4294967296 + u2
      · rw [if_pos (by simpa using hc), d1]
        simp only [bind_ok]
        have hov := guess_over hV hU hL hLUP hP hg ht hc
        obtain ⟨a, _, b⟩ := down (Int.ediv_lt_of_lt_mul hV0 hov)
        rw [w1, w4, a]; exact b
      · rw [if_neg (by simpa using hc)]
        have c := guess_ok hV hU hL hLP hLU hP hg (by omega) (by omega) hv2.1 ht (by omega)
        have d : g - 1 ≤ U / V := Int.le_ediv_of_mul_le hV0 c
        exact ⟨g, rfl, hq, by omega, hg, by omega⟩
end

theorem rdo_app {pre w : List Int} {n i : Nat} {j : Int} (hj : j = (i : Int)) (hi : i < n) (hw : i < w.length) : rdo (pre ++ w) pre.length n j = some w[i] := by
  subst hj
  unfold rdo
  rw [if_pos ⟨by omega, by omega⟩]
  have : pre.length + ((i : Int)).toNat = pre.length + i := by omega
  rw [this, List.getElem?_append_right (by omega), Nat.add_sub_cancel_left]; simp [hw]
theorem setO_app {pre w : List Int} {i : Nat} {j : Int} (hj : j = (i : Int)) (x : Int) : setO (pre ++ w) pre.length j x = pre ++ w.set i x := by
  subst hj
  unfold setO
  have : pre.length + ((i : Int)).toNat = pre.length + i := by omega
  rw [this, List.set_append_right _ _ (by omega), Nat.add_sub_cancel_left]

/-- The multiple is taken off. -/
theorem f77_l1_eq (pre v : List Int) (n : Nat) (g : Int) (hg : 0 ≤ g ∧ g < 4294967296) (hv : Lim v) (hs : v.length < 1000000000) (hn : v.length < n) (w0 : List Int) : ∀ (k i : Nat) (w : List Int) (b c : Int), i + k = v.length → w.length = w0.length → n ≤ w.length → Lim w → 0 ≤ c → c < 4294967296 → 0 ≤ b → b ≤ 1 → w.drop i = w0.drop i →
    val (w.take i) + g * val (v.take i) = val (w0.take i) + (c + b) * pw i →
    ∃ w' b' c', f77_l1 pre.length n v g (pre ++ w) b c i = some (pre ++ w', b', c') ∧ w'.length = w0.length ∧ Lim w' ∧ 0 ≤ c' ∧ c' < 4294967296 ∧ 0 ≤ b' ∧ b' ≤ 1 ∧ w'.drop v.length = w0.drop v.length ∧ val (w'.take v.length) + g * val v = val (w0.take v.length) + (c' + b') * pw v.length
  | 0, i, w, b, c, hk, hl, hnl, hw, hc, hc2, hb, hb2, hd, he => by
    refine ⟨w, b, c, by rw [f77_l1, if_neg (by simp <;> omega)], hl, hw, hc, hc2, hb, hb2, ?_, ?_⟩
    · rw [show v.length = i by omega]; exact hd
    · rw [show i = v.length by omega, List.take_length] at he; exact he
  | k + 1, i, w, b, c, hk, hl, hnl, hw, hc, hc2, hb, hb2, hd, he => by
    have k1 : i < v.length := by omega
    have k2 : i < w.length := by omega
    have k3 : i < w0.length := by omega
    have kv := hv.get k1
    have kw := hw.get k2
    rw [f77_l1, if_pos (by simp <;> omega), rd_nat k1]
    simp only [bind_ok]
    rw [rdo_app rfl (by omega) k2]
    simp only [bind_ok]
    have hgv : 0 ≤ g * v[i] := Int.mul_nonneg hg.1 kv.1
    have hgv2 : g * v[i] ≤ 4294967295 * 4294967295 := Int.mul_le_mul (by omega) (by omega) kv.1 (by omega)
    rw [wu64 (x := v[i]) (by omega) (by omega), wu64 (x := g * v[i]) hgv (by omega), wu64 (x := g * v[i] + c) (by omega) (by omega)]
    generalize hp : g * v[i] + c = p
    rw [wu64 (x := w[i]) (by omega) (by omega), IntKind.wrap_u32 p, wu64 (x := p % 4294967296) (by omega) (by omega), shr32]
    generalize hx : IntKind.u64.wrap (IntKind.u64.wrap (w[i] - p % 4294967296) - b) = x
    have hx' : x = (w[i] - p % 4294967296 - b) % 18446744073709551616 := by rw [← hx, wrap_u64, wrap_u64]; omega
    rw [shr63, IntKind.wrap_u32 x, setO_app rfl, w64 (by omega) (by omega), show ((i : Int) + 1) = ((i + 1 : Nat) : Int) by omega]
    have hdd : w[i] = w0[i] ∧ w.drop (i + 1) = w0.drop (i + 1) := by
      rw [List.drop_eq_getElem_cons k2, List.drop_eq_getElem_cons k3] at hd
      exact ⟨(List.cons.inj hd).1, (List.cons.inj hd).2⟩
    have k2' : i < (w.set i (x % 4294967296)).length := by simpa using k2
    refine f77_l1_eq pre v n g hg hv hs hn w0 k (i + 1) _ _ _ (by omega) (by simpa using hl) (by simpa using hnl) (hw.set (by omega)) (by omega) (by omega) (by omega) (by omega) ?_ ?_
    · rw [List.drop_set_of_lt (by omega)]; exact hdd.2
    · rw [val_take_succ k2', List.getElem_set_self, List.take_set_of_le (by omega), val_take_succ k1, val_take_succ k3, ← hdd.1, pw_s]
      have e1 : x % 4294967296 = w[i] - p % 4294967296 - b + 4294967296 * (x / 9223372036854775808) := by omega
      have e2 : p = 4294967296 * (p / 4294967296) + p % 4294967296 := by omega
      rw [e1]
      generalize p / 4294967296 = ph at *
      generalize p % 4294967296 = pl at *
      generalize x / 9223372036854775808 = bb at *
      have : g * v[i] = 4294967296 * ph + pl - c := by omega
      have e3 : g * (val (v.take i) + pw i * v[i]) = g * val (v.take i) + pw i * (g * v[i]) := by grind
      rw [e3, this]
      grind
/-- One time v is put back. -/
theorem f80_eq {x y c : Int} (hx : 0 ≤ x ∧ x < 4294967296) (hy : 0 ≤ y ∧ y < 4294967296) (hc : 0 ≤ c ∧ c ≤ 1) : f80 x y c = some ((x + y + c) % 4294967296, (x + y + c) / 4294967296) := by
  unfold f80
  rw [wu64 (x := x) (by omega) (by omega), wu64 (x := y) (by omega) (by omega), wu64 (x := c) (by omega) (by omega), wu64 (x := x + y) (by omega) (by omega), wu64 (x := x + y + c) (by omega) (by omega)]
  simp only [bind_ok]
  rw [shr32, IntKind.wrap_u32, wu32 (by omega) (by omega)]
theorem f77_l2_eq (pre v : List Int) (n : Nat) (hv : Lim v) (hs : v.length < 1000000000) (hn : v.length < n) (w0 : List Int) : ∀ (k i : Nat) (w : List Int) (c : Int), i + k = v.length → w.length = w0.length → n ≤ w.length → Lim w → 0 ≤ c → c ≤ 1 → w.drop i = w0.drop i →
    val (w.take i) + c * pw i = val (w0.take i) + val (v.take i) →
    ∃ w' c', f77_l2 pre.length n v (pre ++ w) c i = some (pre ++ w', c') ∧ w'.length = w0.length ∧ Lim w' ∧ 0 ≤ c' ∧ c' ≤ 1 ∧ w'.drop v.length = w0.drop v.length ∧ val (w'.take v.length) + c' * pw v.length = val (w0.take v.length) + val v
  | 0, i, w, c, hk, hl, hnl, hw, hc, hc2, hd, he => by
    refine ⟨w, c, by rw [f77_l2, if_neg (by simp <;> omega)], hl, hw, hc, hc2, ?_, ?_⟩
    · rw [show v.length = i by omega]; exact hd
    · rw [show i = v.length by omega, List.take_length] at he; exact he
  | k + 1, i, w, c, hk, hl, hnl, hw, hc, hc2, hd, he => by
    have k1 : i < v.length := by omega
    have k2 : i < w.length := by omega
    have k3 : i < w0.length := by omega
    have kv := hv.get k1
    have kw := hw.get k2
    rw [f77_l2, if_pos (by simp <;> omega), rdo_app rfl (by omega) k2]
    simp only [bind_ok]
    rw [rd_nat k1]
    simp only [bind_ok]
    rw [f80_eq kw kv ⟨hc, hc2⟩]
    simp only [bind_ok]
    generalize hp : w[i] + v[i] + c = p
    rw [setO_app rfl, w64 (by omega) (by omega), show ((i : Int) + 1) = ((i + 1 : Nat) : Int) by omega]
    have hdd : w[i] = w0[i] ∧ w.drop (i + 1) = w0.drop (i + 1) := by
      rw [List.drop_eq_getElem_cons k2, List.drop_eq_getElem_cons k3] at hd
      exact ⟨(List.cons.inj hd).1, (List.cons.inj hd).2⟩
    have k2' : i < (w.set i (p % 4294967296)).length := by simpa using k2
    refine f77_l2_eq pre v n hv hs hn w0 k (i + 1) _ _ (by omega) (by simpa using hl) (by simpa using hnl) (hw.set (by omega)) (by omega) (by omega) ?_ ?_
    · rw [List.drop_set_of_lt (by omega)]; exact hdd.2
    · rw [val_take_succ k2', List.getElem_set_self, List.take_set_of_le (by omega), val_take_succ k1, val_take_succ k3, ← hdd.1, pw_s]
      have e2 : p = 4294967296 * (p / 4294967296) + p % 4294967296 := by omega
      generalize p / 4294967296 = ph at *
      generalize p % 4294967296 = pl at *
      have : w[i] = 4294967296 * ph + pl - v[i] - c := by omega
      rw [this]
      grind

/-- nats.digit: one digit of the quotient. -/
theorem f77_eq (pre w v : List Int) (m : Nat) (hv : Lim v) (hlen : v.length = m + 2) (hs : v.length < 1000000000) (hw : Lim w) (hwl : m + 3 ≤ w.length) (htop : ∀ h : m + 1 < v.length, 0 < v[m + 1]) (hlt : val (w.take (m + 3)) < val v * 4294967296) :
    ∃ w', f77 (pre ++ w) pre.length (m + 3) v = some (val (w.take (m + 3)) / val v, pre ++ w') ∧ Lim w' ∧ w'.length = w.length ∧ w'.drop (m + 3) = w.drop (m + 3) ∧ val (w'.take (m + 3)) = val (w.take (m + 3)) % val v ∧ 0 ≤ val (w.take (m + 3)) / val v ∧ val (w.take (m + 3)) / val v < 4294967296 := by
  have a1 : m + 1 < v.length := by omega
  have a2 : m < v.length := by omega
  have b0 : m + 2 < w.length := by omega
  have b1 : m + 1 < w.length := by omega
  have b2 : m < w.length := by omega
  have kv1 := hv.get a1; have kv2 := hv.get a2; have ku0 := hw.get b0; have ku1 := hw.get b1; have ku2 := hw.get b2
  have ht := htop a1
  have eV : val v = val (v.take m) + pw m * (v[m] + 4294967296 * v[m + 1]) := by
    have := val_split (l := v) (i := m) (by omega)
    rw [val_drop a2, val_drop a1, List.drop_of_length_le (by omega), val_nil] at this
    rw [this]; grind
  have eU : val (w.take (m + 3)) = val (w.take m) + pw m * (w[m] + 4294967296 * (w[m + 2] * 4294967296 + w[m + 1])) := by
    have p1 := pw_s m; have p2 : pw (m + 2) = 4294967296 * pw (m + 1) := pw_s (m + 1)
    rw [val_take_succ b0, val_take_succ b1, val_take_succ b2, p2, p1]; clear hlt htop; grind
  have hL0 := val_nonneg (hv.take m); have hL1 := val_lt (hv.take m)
  have hM0 := val_nonneg (hw.take m); have hM1 := val_lt (hw.take m)
  rw [List.length_take, Nat.min_eq_left (by omega)] at hL1 hM1
  have hPp := pw_pos m
  have hV0 : 0 < val v := by
    have h0 : 0 ≤ pw m * (v[m] + 4294967296 * v[m + 1] - 1) := Int.mul_nonneg (by omega) (by omega)
    have h1 : pw m * (v[m] + 4294967296 * v[m + 1] - 1) = pw m * (v[m] + 4294967296 * v[m + 1]) - pw m := by grind
    omega
  have hU0 := val_nonneg (hw.take (m + 3))
  generalize hUe : val (w.take (m + 3)) = U at *
  have hq0 : 0 ≤ U / val v := Int.ediv_nonneg hU0 (by omega)
  have hqB : U / val v < 4294967296 := Int.ediv_lt_of_lt_mul hV0 (by rw [Int.mul_comm]; exact hlt)
  have hdm := Int.mul_ediv_add_emod U (val v)
  have hr0 := Int.emod_nonneg U (b := val v) (by omega)
  have hr1 := Int.emod_lt_of_pos U hV0
  have e1 : IntKind.i64.wrap ((v.length : Int) - 1) = ((m + 1 : Nat) : Int) := by rw [w64 (by omega) (by omega)]; omega
  have hu0v := top_le (L := val (v.take m)) eV eU hL1 hM0 hPp ku1.1 ku2.1 kv2.2 hlt
  unfold f77
  rw [rdo_app (i := m + 2) (by omega) (by omega) b0]
  simp only [bind_ok]
  rw [e1, rdo_app rfl (by omega) b1, rd_nat a1]
  simp only [bind_ok]
  rw [wu64 (x := w[m + 2]) (by omega) (by omega), wu64 (x := w[m + 1]) (by omega) (by omega), wu64 (x := v[m + 1]) (by omega) (by omega), shl32 ku0.1 ku0.2, or64 ku0.1 ku0.2 ku1.1 ku1.2, nzN (by omega)]
  simp only [bind_ok]
  generalize htt : w[m + 2] * 4294967296 + w[m + 1] = t at *
  have ht0 : 0 ≤ t := by omega
  have ht1 : t < 18446744073709551616 := by omega
  rw [quo64 ht0 ht1 ht, tmod_pos ht0]
  have hgd := Int.mul_ediv_add_emod t v[m + 1]
  have hg0 : 0 ≤ t / v[m + 1] := Int.ediv_nonneg ht0 (by omega)
  have hgl : t / v[m + 1] ≤ t := Int.ediv_le_self _ ht0
  have hrr0 : 0 ≤ t % v[m + 1] := Int.emod_nonneg _ (by omega)
  have hrr1 : t % v[m + 1] < v[m + 1] := Int.emod_lt_of_pos _ ht
  have hqg : U / val v ≤ t / v[m + 1] := by
    refine Int.le_of_lt_add_one (Int.ediv_lt_of_lt_mul hV0 ?_)
    -- U < (g + 1) V
    generalize t / v[m + 1] = g at *
    have h1 : t + 1 ≤ (g + 1) * v[m + 1] := by rw [Int.add_mul, Int.one_mul, Int.mul_comm]; omega
    have h2 : pw m * (4294967296 * (t + 1)) ≤ pw m * (4294967296 * ((g + 1) * v[m + 1])) := Int.mul_le_mul_of_nonneg_left (by omega) (by omega)
    have h3 : pw m * (w[m] + 4294967296 * t + 1) ≤ pw m * (4294967296 * (t + 1)) := Int.mul_le_mul_of_nonneg_left (by omega) (by omega)
    have h4 : pw m * (w[m] + 4294967296 * t + 1) = pw m * (w[m] + 4294967296 * t) + pw m := by grind
    have h5 : 0 ≤ (g + 1) * (val (v.take m) + pw m * v[m]) := Int.mul_nonneg (by omega) (by have := Int.mul_nonneg (Int.le_of_lt hPp) kv2.1; omega)
    have h6 : (g + 1) * val v = (g + 1) * (val (v.take m) + pw m * v[m]) + pw m * (4294967296 * ((g + 1) * v[m + 1])) := by rw [eV]; grind
    omega
  obtain ⟨g, c1, c2, c3, c4, c5⟩ := f77_l0_eq (U := U) (V := val v) (L := val (v.take m)) (LU := val (w.take m)) (P := pw m) (v1 := v[m + 1]) (v2 := v[m]) (u0 := w[m + 2]) (u1 := w[m + 1]) (u2 := w[m]) pre w v m hlen hwl hs (by simp [-List.getElem_cons_drop]) (by simp [-List.getElem_cons_drop]) (by simp [-List.getElem_cons_drop]) eV (by rw [htt]; exact eU) hL0 hL1 hM0 hM1 hV0 hlt ⟨ht, kv1.2⟩ kv2 ku0.1 ku1 ku2
    (t / v[m + 1]).toNat (t / v[m + 1]) (t % v[m + 1]) (Nat.le_refl _) hg0 (by omega) hrr0 (by omega) (by rw [Int.mul_comm, htt]; exact hgd) hqg
  rw [c1]
  simp only [bind_ok]
  obtain ⟨w1, b, c, d1, d2, d3, d4, d5, d6, d7, d8, d9⟩ := f77_l1_eq pre v (m + 3) g ⟨c4, c5⟩ hv hs (by omega) w v.length 0 w 0 0 (by omega) rfl hwl hw (by omega) (by omega) (by omega) (by omega) rfl (by simp [val])
  rw [show ((0 : Nat) : Int) = 0 from rfl] at d1
  rw [d1]
  simp only [bind_ok]
  have k1 : m + 2 < w1.length := by omega
  have hwn : w1[m + 2] = w[m + 2] ∧ w1.drop (m + 3) = w.drop (m + 3) := by
    rw [hlen, List.drop_eq_getElem_cons k1, List.drop_eq_getElem_cons b0] at d8
    exact ⟨(List.cons.inj d8).1, (List.cons.inj d8).2⟩
  rw [rdo_app (i := m + 2) (by omega) (by omega) k1]
  simp only [bind_ok]
  rw [hwn.1, wu64 (x := w[m + 2]) (by omega) (by omega)]
  generalize hx : IntKind.u64.wrap (IntKind.u64.wrap (w[m + 2] - c) - b) = x
  have hx' : x = (w[m + 2] - c - b) % 18446744073709551616 := by rw [← hx, wrap_u64, wrap_u64]; omega
  rw [shr63, IntKind.wrap_u32 x, setO_app (i := m + 2) (by omega)]
  rw [hlen] at d9
  have eUn : U = val (w.take (m + 2)) + pw (m + 2) * w[m + 2] := by rw [← hUe]; exact val_take_succ b0
  have k1' : m + 2 < (w1.set (m + 2) (x % 4294967296)).length := by simpa using k1
  have ev1 : val ((w1.set (m + 2) (x % 4294967296)).take (m + 3)) = val (w1.take (m + 2)) + pw (m + 2) * (x % 4294967296) := by
    rw [val_take_succ k1', List.getElem_set_self, List.take_set_of_le (by omega)]
  have hpn := pw_pos (m + 2)
  by_cases hbr : w[m + 2] - c - b < 0
  · -- too much was taken
    have hxv : x / 9223372036854775808 = 1 := by omega
    have hxm : x % 4294967296 = w[m + 2] - c - b + 4294967296 := by omega
    rw [if_neg (by simp [hxv])]
    obtain ⟨w2, c', f1, f2, f3, f4, f5, f6, f7⟩ := f77_l2_eq pre v (m + 3) hv hs (by omega) (w1.set (m + 2) (x % 4294967296)) v.length 0 (w1.set (m + 2) (x % 4294967296)) 0 (by omega) rfl (by simp; omega) (d3.set (by omega)) (by omega) (by omega) rfl (by simp [val])
    rw [show ((0 : Nat) : Int) = 0 from rfl] at f1
    rw [f1]
    simp only [bind_ok]
    have k2 : m + 2 < w2.length := by rw [f2]; exact k1'
    have hw2n : w2[m + 2] = x % 4294967296 ∧ w2.drop (m + 3) = w1.drop (m + 3) := by
      rw [hlen, List.drop_eq_getElem_cons k2, List.drop_eq_getElem_cons k1', List.getElem_set_self] at f6
      refine ⟨(List.cons.inj f6).1, ?_⟩
      have := (List.cons.inj f6).2
      rwa [List.drop_set_of_lt (by omega)] at this
    rw [rdo_app (i := m + 2) (by omega) (by omega) k2, hw2n.1]
    simp only [bind_ok]
    rw [setO_app (i := m + 2) (by omega), IntKind.wrap_u32 (x % 4294967296 + c')]
    rw [hlen] at f7
    rw [List.take_set_of_le (by omega)] at f7
    have hneg : U - g * val v < 0 := by
      have h1 : pw (m + 2) * (w[m + 2] - c - b) ≤ pw (m + 2) * (-1) := Int.mul_le_mul_of_nonneg_left (by omega) (by omega)
      have h2 := val_lt (d3.take (m + 2))
      rw [List.length_take, Nat.min_eq_left (by omega)] at h2
      have h3 : pw (m + 2) * (w[m + 2] - c - b) = pw (m + 2) * w[m + 2] - (c + b) * pw (m + 2) := by grind
      omega
    have hgq : g = U / val v + 1 := by
      have : U / val v < g := Int.ediv_lt_of_lt_mul hV0 (by omega)
      omega
    refine ⟨w2.set (m + 2) ((x % 4294967296 + c') % 4294967296), ?_, f3.set (by omega), by simp only [List.length_set] at f2 ⊢; omega, ?_, ?_, hq0, hqB⟩
    · rw [wu64 (by omega) (by omega), wu32 (by omega) (by omega), hgq]; simp
    · rw [List.drop_set_of_lt (by omega), hw2n.2, hwn.2]
    · have k2' : m + 2 < (w2.set (m + 2) ((x % 4294967296 + c') % 4294967296)).length := by simpa using k2
      rw [val_take_succ k2', List.getElem_set_self, List.take_set_of_le (by omega)]
      have h2 := val_lt (f3.take (m + 2)); have h3 := val_nonneg (f3.take (m + 2))
      rw [List.length_take, Nat.min_eq_left (by omega)] at h2
      -- the whole, less the limb that falls away
      have hV1 := val_lt hv
      rw [hlen] at hV1
      have e5 : val (w2.take (m + 2)) + pw (m + 2) * (x % 4294967296 + c') = U % val v + pw (m + 2) * 4294967296 := by
        have h8 : U % val v = U - g * val v + val v := by rw [hgq, Int.add_mul, Int.one_mul, Int.mul_comm (U / val v)]; omega
        rw [h8, hxm]
        have e6 : pw (m + 2) * (w[m + 2] - c - b + 4294967296 + c') = pw (m + 2) * w[m + 2] - (c + b) * pw (m + 2) + pw (m + 2) * 4294967296 + c' * pw (m + 2) := by grind
        omega
      have h9 : x % 4294967296 + c' = 4294967296 := by
        apply Classical.byContradiction
        intro hc
        have : x % 4294967296 + c' ≤ 4294967295 := by omega
        have h1 : pw (m + 2) * (x % 4294967296 + c') ≤ pw (m + 2) * 4294967295 := Int.mul_le_mul_of_nonneg_left this (by omega)
        omega
      rw [h9] at e5 ⊢
      simp
      omega
  · -- just so much
    have hxv : x / 9223372036854775808 = 0 := by omega
    have hxm : x % 4294967296 = w[m + 2] - c - b := by omega
    rw [if_pos (by simp [hxv])]
    have hval : val ((w1.set (m + 2) (x % 4294967296)).take (m + 3)) = U - g * val v := by
      rw [ev1, hxm]
      have h3 : pw (m + 2) * (w[m + 2] - c - b) = pw (m + 2) * w[m + 2] - (c + b) * pw (m + 2) := by grind
      omega
    have hwl2 : Lim (w1.set (m + 2) (x % 4294967296)) := d3.set (by omega)
    have h0 := val_nonneg (hwl2.take (m + 3))
    have hgq : g = U / val v := by
      have : g ≤ U / val v := Int.le_ediv_of_mul_le hV0 (by omega)
      omega
    refine ⟨w1.set (m + 2) (x % 4294967296), by rw [wu32 c4 c5, hgq], hwl2, by simp only [List.length_set]; omega, ?_, ?_, hq0, hqB⟩
    · rw [List.drop_set_of_lt (by omega), hwn.2]
    · rw [hval, hgq, Int.mul_comm]; omega
end Go.Bx.Scan

/- nats.QuoRem, nats.Gcd: whole, in plain Lean. (Own text.) -/
namespace Go.Bx.Scan
set_option linter.unusedVariables false
set_option linter.unusedSimpArgs false
set_option linter.unusedSectionVars false
open Go.Proofs
set_option linter.unusedVariables false
set_option linter.unusedSimpArgs false

theorem f65_l0_eq (v : List Int) (m : Nat) (hv : Lim v) (hlen : v.length = m + 2) (hs : v.length < 100000000) (htop : ∀ h : m + 1 < v.length, 0 < v[m + 1]) (A : Int) : ∀ (j : Nat) (u q : List Int), Lim u → Lim q → u.length = q.length + m + 2 → j ≤ q.length → q.length < 100000000 →
    val (u.drop j) < val v → A = val v * (pw j * val (q.drop j)) + val u → ∃ u' q', f65_l0 v u q ((j : Int) - 1) = some (u', q') ∧ Lim u' ∧ Lim q' ∧ u'.length = u.length ∧ q'.length = q.length ∧ val u' < val v ∧ A = val v * val q' + val u'
  | 0, u, q, hu, hq, hl, hj, hql, hlt, hA => by
    refine ⟨u, q, by rw [f65_l0, if_neg (by simp)], hu, hq, rfl, rfl, by simpa using hlt, ?_⟩
    rw [pw_0, List.drop_zero] at hA; rw [hA]; grind
  | j + 1, u, q, hu, hq, hl, hj, hql, hlt, hA => by
    have k1 : j < q.length := by omega
    have k2 : j < u.length := by omega
    have hVl := val_lt hv
    rw [hlen] at hVl
    have hw : Lim (u.drop j) := hu.drop j
    have hwl : m + 3 ≤ (u.drop j).length := by rw [List.length_drop]; omega
    have ku := hu.get k2
    have e1 := val_drop k2
    have h0 := val_nonneg (hu.drop (j + 1))
    have hT : val (u.drop j) < val v * 4294967296 := by omega
    have esp := val_split (l := u.drop j) (i := m + 3) hwl
    have hp : pw (m + 3) = 4294967296 * pw (m + 2) := pw_s _
    have hrest : val ((u.drop j).drop (m + 3)) = 0 := by
      have h1 := val_nonneg (hw.drop (m + 3)); have h2 := val_nonneg (hw.take (m + 3))
      apply Classical.byContradiction
      intro hc
      have : pw (m + 3) * 1 ≤ pw (m + 3) * val ((u.drop j).drop (m + 3)) := Int.mul_le_mul_of_nonneg_left (by omega) (Int.le_of_lt (pw_pos _))
      omega
    rw [hrest, Int.mul_zero, Int.add_zero] at esp
    obtain ⟨w', f1, f2, f3, f4, f5, f6, f7⟩ := f77_eq (u.take j) (u.drop j) v m hv hlen (by omega) hw hwl htop (by rw [← esp]; exact hT)
    rw [List.take_append_drop, List.length_take, Nat.min_eq_left (by omega), ← esp] at f1
    rw [← esp] at f5 f6 f7
    rw [f65_l0, if_pos (by simp <;> omega), show (((j + 1 : Nat) : Int) - 1) = (j : Int) by omega, w64 (x := (j : Int) + v.length) (by omega) (by omega), w64 (by omega) (by omega), cutN (m := j) (n := j + v.length + 1) rfl (by omega) (by omega) (by omega)]
    simp only [bind_ok]
    rw [show ((j : Int) + v.length + 1).toNat - ((j : Int)).toNat = m + 3 by omega, show ((j : Int)).toNat = j by omega, f1]
    simp only [bind_ok]
    rw [rd_nat k1]
    simp only [bind_ok]
    rw [setN _ rfl, w64 (by omega) (by omega)]
    have hpre : Lim (u.take j) := hu.take j
    have hlp : (u.take j).length = j := by rw [List.length_take, Nat.min_eq_left (by omega)]
    have hul : (u.take j ++ w').length = u.length := by rw [List.length_append, hlp, f3, List.length_drop]; omega
    have hw'v : val w' = val (u.drop j) % val v := by
      rw [val_split (l := w') (i := m + 3) (by omega), f4, hrest, Int.mul_zero, Int.add_zero, f5]
    have hV0 : 0 < val v := by
      have := val_nonneg (hu.drop (j + 1)); omega
    have hm1 := Int.emod_lt_of_pos (val (u.drop j)) hV0
    have hdm := Int.mul_ediv_add_emod (val (u.drop j)) (val v)
    obtain ⟨u', q', g1, g2, g3, g4, g5, g6, g7⟩ := f65_l0_eq v m hv hlen hs htop A j (u.take j ++ w') (q.set j (val (u.drop j) / val v)) (hpre.append f2) (hq.set ⟨f6, f7⟩) (by rw [hul]; simp; omega) (by simp; omega) (by simpa using hql)
      (by rw [List.drop_append_of_le_length (by omega), List.drop_of_length_le (by omega), List.nil_append, hw'v]; exact hm1)
      (by
        have k1' : j < (q.set j (val (u.drop j) / val v)).length := by simpa using k1
        rw [val_drop k1', List.getElem_set_self, List.drop_set_of_lt (by omega), val_append, hlp, hw'v, hA, pw_s]
        have es := val_split (l := u) (i := j) (by omega)
        rw [es]
        generalize val (u.drop j) / val v = Q at *
        generalize val (u.drop j) % val v = R at *
        generalize val (q.drop (j + 1)) = D at *
        rw [← hdm]
        grind)
    exact ⟨u', q', g1, g2, g3, by rw [g4, hul], by rw [g5]; simp, g6, g7⟩

theorem f65_eq (a b : List Int) (ha : Lim a) (hb : Lim b) (la : a.length < 10000000) (lb : b.length < 10000000) (hb0 : 0 < val b) : ∃ q r, f65 a b = some (q, r) ∧ Norm q ∧ Norm r ∧ val q = val a / val b ∧ val r = val a % val b := by
  unfold f65
  rw [f72_eq a (by omega), f72_eq b (by omega)]
  simp only [bind_ok]
  have na := trim_norm ha; have nb := trim_norm hb
  have ka := trim_le a; have kb := trim_le b
  rw [← trim_val a, ← trim_val b] at *
  generalize trimL a = x at *; generalize trimL b = y at *
  rw [f73_eq x y na.1 nb.1 (by omega) (by omega)]
  simp only [bind_ok]
  have hx0 := val_nonneg na.1
  unfold cmpZ
  by_cases hlt : val x < val y
  · rw [if_pos hlt, if_pos (by decide), f62_eq x (by omega)]
    simp only [bind_ok]
    exact ⟨[], trimL x, rfl, Norm.nil, trim_norm na.1, by rw [Int.ediv_eq_zero_of_lt hx0 hlt]; rfl, by rw [trim_val, Int.emod_eq_of_lt hx0 hlt]⟩
  · rw [if_neg hlt, if_neg (by split <;> decide)]
    have hyne : y ≠ [] := by intro h; subst h; simp [val] at hb0
    have hyl : 0 < y.length := List.length_pos_iff.2 hyne
    by_cases h1 : y.length = 1
    · rw [if_pos (by simp [h1])]
      obtain ⟨w, rfl⟩ := List.length_eq_one_iff.1 h1
      rw [rdN (i := 0) (n := 0) rfl (by simp)]
      simp only [bind_ok, List.getElem_cons_zero]
      rw [val_one] at *
      have hwl := nb.1.head
      obtain ⟨q, g1, g2, g3, g4⟩ := f74_eq x w na.1 (by omega) ⟨hb0, hwl.2⟩
      rw [g1]
      simp only [bind_ok]
      rw [f72_eq _ (by simp)]
      simp only [bind_ok]
      have hr0 : 0 ≤ val x % w := Int.emod_nonneg _ (by omega)
      have hr1 : val x % w < w := Int.emod_lt_of_pos _ hb0
      have hl : Lim [val x % w] := Lim.cons ⟨hr0, by omega⟩ Lim.nil
      exact ⟨q, trimL [val x % w], rfl, g2, trim_norm hl, g3, by rw [trim_val, val_one]⟩
    · rw [if_neg (by simp; omega)]
      obtain ⟨m, hm⟩ : ∃ m, y.length = m + 2 := ⟨y.length - 2, by omega⟩
      have k1 : m + 1 < y.length := by omega
      rw [w64 (x := (y.length : Int) - 1) (by omega) (by omega), rdN (n := m + 1) (by omega) k1]
      simp only [bind_ok]
      have kt := nb.1.get k1
      have htop : y[m + 1] ≠ 0 := by
        rcases snoc_cases y with rfl | ⟨z, e, rfl⟩
        · exact absurd rfl hyne
        · have := nb.snoc
          simp at hm
          rw [List.getElem_append_right (by omega)]
          simpa using this
      obtain ⟨s, s1, s2, s3, s4⟩ := f75_eq (x := y[m + 1]) (by omega) kt.2
      rw [s1]
      simp only [bind_ok]
      obtain ⟨v, v1, v2, v3⟩ := f76_eq s y s2 nb.1 (by omega)
      rw [v1]
      simp only [bind_ok]
      have hp := p2_pos s; have hp31 := p2_31 s2; have hps := p2_split (s := s) (by omega)
      -- how long v is
      have ey : val y = val (y.take (m + 1)) + pw (m + 1) * y[m + 1] := by
        have := val_split (l := y) (i := m + 1) (by omega)
        rw [val_drop k1, List.drop_of_length_le (by omega), val_nil, Int.mul_zero, Int.add_zero] at this; exact this
      have y0 := val_nonneg (nb.1.take (m + 1)); have y1 := val_lt (nb.1.take (m + 1))
      rw [List.length_take, Nat.min_eq_left (by omega)] at y1
      have hpm := pw_pos (m + 1)
      have pm2 : pw (m + 2) = 4294967296 * pw (m + 1) := pw_s _
      have htq : y[m + 1] + 1 ≤ p2 (32 - s) := by
        apply Classical.byContradiction
        intro hc
        have : p2 (32 - s) * p2 s ≤ y[m + 1] * p2 s := Int.mul_le_mul_of_nonneg_right (by omega) (by omega)
        rw [Int.mul_comm, hps] at this; omega
      have hvhi : val v < pw (m + 2) := by
        have h1 : val y + 1 ≤ pw (m + 1) * (y[m + 1] + 1) := by rw [Int.mul_add, Int.mul_one]; omega
        have h2 : pw (m + 1) * (y[m + 1] + 1) ≤ pw (m + 1) * p2 (32 - s) := Int.mul_le_mul_of_nonneg_left htq (by omega)
        have h3 : (val y + 1) * p2 s ≤ (pw (m + 1) * p2 (32 - s)) * p2 s := Int.mul_le_mul_of_nonneg_right (by omega) (by omega)
        have h4 : (pw (m + 1) * p2 (32 - s)) * p2 s = pw (m + 1) * 4294967296 := by rw [← hps]; grind
        have h5 : (val y + 1) * p2 s = val y * p2 s + p2 s := by grind
        omega
      have hvlo : pw (m + 1) * 2147483648 ≤ val v := by
        have h1 : pw (m + 1) * 2147483648 ≤ pw (m + 1) * (y[m + 1] * p2 s) := Int.mul_le_mul_of_nonneg_left s3 (by omega)
        have h2 : 0 ≤ val (y.take (m + 1)) * p2 s := Int.mul_nonneg y0 (by omega)
        have h3 : val y * p2 s = val (y.take (m + 1)) * p2 s + pw (m + 1) * (y[m + 1] * p2 s) := by rw [ey]; grind
        omega
      have hvl : v.length = m + 2 := by
        have h1 := v2.len_le hvhi
        have h2 := val_lt v2.1
        apply Classical.byContradiction
        intro hc
        have h3 : pw v.length ≤ pw (m + 1) := pw_mono (by omega)
        omega
      have hvtop : ∀ h : m + 1 < v.length, 0 < v[m + 1] := fun h => by
        have := v2.1.get h
        apply Classical.byContradiction
        intro hc
        have h0 : v[m + 1] = 0 := by omega
        rcases snoc_cases v with rfl | ⟨z, e, rfl⟩
        · simp at hvl
        · have hs := v2.snoc
          simp at hvl
          rw [List.getElem_append_right (by omega)] at h0
          simp at h0; exact hs h0
      -- the dividend
      have hxl : y.length ≤ x.length := by
        apply Classical.byContradiction
        intro hc
        exact hlt (Norm.len_lt na.1 nb (by omega))
      rw [w64 (x := (x.length : Int) + 1) (by omega) (by omega), mkN (n := x.length + 1) 0 (by omega) (by omega) (by omega)]
      simp only [bind_ok]
      obtain ⟨u, u1, u2, u3⟩ := f76_eq s x s2 na.1 (by omega)
      rw [u1]
      simp only [bind_ok]
      have xhi := val_lt na.1
      have pxl : pw (x.length + 1) = 4294967296 * pw x.length := pw_s _
      have hpx := pw_pos x.length
      have huv : val u < pw x.length * p2 s := by rw [u3]; exact Int.mul_lt_mul_of_pos_right xhi hp
      have huv2 : pw x.length * p2 s ≤ pw x.length * 2147483648 := Int.mul_le_mul_of_nonneg_left hp31 (by omega)
      have hul : u.length ≤ x.length + 1 := u2.len_le (by omega)
      have hcp : cpy (List.replicate (x.length + 1) (0 : Int)) u = some (u ++ (List.replicate (x.length + 1) (0 : Int)).drop u.length) := by unfold cpy; rw [if_pos (by simpa using hul)]
      rw [hcp]
      simp only [bind_ok]
      rw [List.drop_replicate, w64 (x := (x.length : Int) - y.length) (by omega) (by omega), w64 (by omega) (by omega), mkN (n := x.length - y.length + 1) 0 (by omega) (by omega) (by omega)]
      simp only [bind_ok]
      rw [List.length_replicate, w64 (by omega) (by omega)]
      generalize hU : u ++ List.replicate (x.length + 1 - u.length) 0 = U
      have hUL : Lim U := by rw [← hU]; exact u2.1.append (Lim.zeros _)
      have hUv : val U = val u := by rw [← hU, val_append, val_zeros]; omega
      have hUl : U.length = x.length + 1 := by rw [← hU]; simp; omega
      have hV0 : 0 < val v := by omega
      have hdlt : val (U.drop (x.length - y.length + 1)) < val v := by
        have e := val_split (l := U) (i := x.length - y.length + 1) (by omega)
        have h0 := val_nonneg (hUL.take (x.length - y.length + 1))
        have hsp : pw x.length = pw (x.length - y.length + 1) * pw (m + 1) := by rw [← pw_add, show x.length - y.length + 1 + (m + 1) = x.length by omega]
        have hpp := pw_pos (x.length - y.length + 1)
        generalize val (U.drop (x.length - y.length + 1)) = D at *
        generalize pw (x.length - y.length + 1) = P at *
        apply Classical.byContradiction
        intro hc
        have h1 : P * (pw (m + 1) * 2147483648) ≤ P * D := Int.mul_le_mul_of_nonneg_left (by omega) (by omega)
        have h2 : P * (pw (m + 1) * 2147483648) = pw x.length * 2147483648 := by rw [hsp]; grind
        omega
      obtain ⟨u', q', g1, g2, g3, g4, g5, g6, g7⟩ := f65_l0_eq v m v2.1 hvl (by omega) hvtop (val U) (x.length - y.length + 1) U (List.replicate (x.length - y.length + 1) 0) hUL (Lim.zeros _) (by rw [hUl, List.length_replicate]; omega) (by simp) (by simp; omega) hdlt
        (by rw [List.drop_of_length_le (by simp), val_nil]; simp)
      rw [g1]
      simp only [bind_ok]
      rw [List.length_replicate] at g5
      rw [f72_eq q' (by omega)]
      simp only [bind_ok]
      obtain ⟨r, r1, r2, r3⟩ := f78_eq s u' s2 g2 (by omega)
      rw [r1]
      simp only [bind_ok]
      refine ⟨trimL q', r, rfl, trim_norm g3, r2, ?_, ?_⟩
      all_goals
        have hu0 := val_nonneg g2
        have key : val u' = (val x - val y * val q') * p2 s := by rw [hUv, u3, v3] at g7; grind
        have hrm : val u' / p2 s = val x - val y * val q' := by rw [key, Int.mul_ediv_cancel _ (by omega)]
        have hb1 : val x - val y * val q' < val y := by rw [v3, key] at g6; exact Int.lt_of_mul_lt_mul_right g6 (by omega)
        have hb2 : 0 ≤ val x - val y * val q' := by
          apply Classical.byContradiction
          intro hc
          have : (val x - val y * val q') * p2 s ≤ (-1) * p2 s := Int.mul_le_mul_of_nonneg_right (by omega) (by omega)
          omega
      · rw [trim_val]
        have : val x = (val x - val y * val q') + val y * val q' := by omega
        rw [this, Int.add_mul_ediv_left _ _ (by omega), Int.ediv_eq_zero_of_lt hb2 hb1, Int.zero_add]
      · rw [r3, hrm]
        have : val x = (val x - val y * val q') + val y * val q' := by omega
        rw [this, Int.add_mul_emod_self_left, Int.emod_eq_of_lt hb2 hb1]
        omega

/-- The greatest number that divides both. -/
def gcdZ (a b : Int) : Int := (Nat.gcd a.toNat b.toNat : Int)
theorem gcdZ_step {a b : Int} (ha : 0 ≤ a) (hb : 0 < b) : gcdZ a b = gcdZ b (a % b) := by
  obtain ⟨m, rfl⟩ := Int.eq_ofNat_of_zero_le ha
  obtain ⟨n, rfl⟩ := Int.eq_ofNat_of_zero_le (Int.le_of_lt hb)
  unfold gcdZ
  have : ((m : Int) % (n : Int)).toNat = m % n := by rw [← Int.natCast_emod]; rfl
  rw [this]
  show ((Nat.gcd m n : Nat) : Int) = ((Nat.gcd n (m % n) : Nat) : Int)
  rw [Nat.gcd_comm m n, Nat.gcd_rec n m, Nat.gcd_comm]
theorem gcdZ_zero {a : Int} (ha : 0 ≤ a) : gcdZ a 0 = a := by unfold gcdZ; simp; omega
theorem f63_l0_eq : ∀ (k : Nat) (a b : List Int), (val b).toNat ≤ k → Norm a → Norm b → a.length < 10000000 → b.length < 10000000 → ∃ g, f63_l0 a b = some g ∧ Norm g ∧ val g = gcdZ (val a) (val b) ∧ g.length < 10000000
  | k, a, b, hk, ha, hb, la, lb => by
    by_cases h0 : b = []
    · subst h0
      exact ⟨a, by rw [f63_l0, if_neg (by simp)], ha, by rw [val_nil, gcdZ_zero (val_nonneg ha.1)], la⟩
    · have hp := hb.pos h0
      have hl : 0 < b.length := List.length_pos_iff.2 h0
      obtain ⟨q, r, g1, g2, g3, g4, g5⟩ := f65_eq a b ha.1 hb.1 la lb hp
      rw [f63_l0, if_pos (by simp <;> omega), g1]
      simp only [bind_ok]
      have hr1 : val a % val b < val b := Int.emod_lt_of_pos _ hp
      have hr0 : 0 ≤ val a % val b := Int.emod_nonneg _ (by omega)
      have hrl : r.length ≤ b.length := g3.len_le (by have := val_lt hb.1; omega)
      match k with
      | 0 => omega
      | k + 1 =>
        obtain ⟨g, i1, i2, i3, i4⟩ := f63_l0_eq k b r (by omega) hb g3 lb (by omega)
        exact ⟨g, i1, i2, by rw [i3, g5, gcdZ_step (val_nonneg ha.1) hp], i4⟩
theorem f63_eq (a b : List Int) (ha : Lim a) (hb : Lim b) (la : a.length < 10000000) (lb : b.length < 10000000) : ∃ g, f63 a b = some g ∧ Norm g ∧ val g = gcdZ (val a) (val b) ∧ g.length < 10000000 := by
  unfold f63
  rw [f62_eq a (by omega), f62_eq b (by omega)]
  simp only [bind_ok]
  have ka := trim_le a; have kb := trim_le b
  obtain ⟨g, g1, g2, g3, g4⟩ := f63_l0_eq _ (trimL a) (trimL b) (Nat.le_refl _) (trim_norm ha) (trim_norm hb) (by omega) (by omega)
  rw [g1]
  simp only [bind_ok]
  rw [f62_eq g (by omega)]
  exact ⟨trimL g, rfl, trim_norm g2.1, by rw [trim_val, g3, trim_val, trim_val], by have := trim_le g; omega⟩
theorem f64_eq (a : List Int) (ha : Norm a) : f64 a = some (decide (val a = 1)) := by
  unfold f64
  by_cases h : a.length = 1
  · obtain ⟨x, rfl⟩ := List.length_eq_one_iff.1 h
    rw [if_pos (by simp), rdN (i := 0) (n := 0) rfl (by simp)]
    simp only [bind_ok, List.getElem_cons_zero, val_one]
    by_cases hx : x = 1 <;> simp [hx]
  · rw [if_neg (by simp; omega)]
    simp only [bind_ok]
    have : val a ≠ 1 := fun hv => by
      have h2 : Norm [1] := ⟨Lim.cons (by omega) Lim.nil, by decide⟩
      have := ha.eq h2 (by rw [hv, val_one])
      subst this; simp at h
    simp [this]
end Go.Bx.Scan

/- The reference's naturals, in plain Lean: cutting, comparing, adding, taking off, multiplying, shifting. (Own text.) -/
namespace Go.Bx.Scan
set_option linter.unusedVariables false
set_option linter.unusedSimpArgs false
set_option linter.unusedSectionVars false
open Go.Proofs
set_option linter.unusedVariables false
set_option linter.unusedSimpArgs false

theorem val_set {l : List Int} {i : Nat} (h : i < l.length) (x : Int) : val (l.set i x) = val l + pw i * (x - l[i]) := by
  have h2 : i < (l.set i x).length := by simpa using h
  have e1 := val_split (l := l) (i := i) (by omega)
  have e2 := val_split (l := l.set i x) (i := i) (by omega)
  rw [val_drop h] at e1
  rw [val_drop h2, List.getElem_set_self, List.take_set_of_le (by omega), List.drop_set_of_lt (by omega)] at e2
  rw [e1, e2]; grind

theorem f56_l0_eq (a : List Int) (ha : a.length < 1000000000) : ∀ n : Nat, n ≤ a.length → f56_l0 a n = some ((trimL (a.take n)).length : Int)
  | 0, _ => by rw [f56_l0, if_neg (by simp)]; simp [trimL]
  | n + 1, hn => by
    have h1 : n < a.length := by omega
    rw [f56_l0, if_pos (by simp <;> omega), show IntKind.i64.wrap (((n + 1 : Nat) : Int) - 1) = (n : Int) by rw [w64 (by omega) (by omega)]; omega, rd_nat h1]
    simp only [bind_ok]
    rw [List.take_succ_eq_append_getElem h1, trim_snoc]
    by_cases h0 : a[n] = 0
    · rw [if_pos (by simp [h0]), if_pos h0]; exact f56_l0_eq a ha n (by omega)
    · rw [if_neg (by simp [h0]), if_neg h0, List.length_append, List.length_take, Nat.min_eq_left (by omega), List.length_singleton]
theorem f56_l1_eq (a : List Int) (ha : a.length < 1000000000) (n : Nat) (hn : n ≤ a.length) : ∀ (k i : Nat), i + k = n → f56_l1 a n (a.take i) i = some (a.take n)
  | 0, i, hk => by rw [f56_l1, if_neg (by simp <;> omega), show i = n by omega]
  | k + 1, i, hk => by
    have h1 : i < a.length := by omega
    rw [f56_l1, if_pos (by simp <;> omega), rd_nat h1]
    simp only [bind_ok]
    rw [apN (by simp; omega)]
    simp only [bind_ok]
    rw [w64 (by omega) (by omega), ← List.take_succ_eq_append_getElem h1]
    exact f56_l1_eq a ha n hn k (i + 1) (by omega)
theorem f56_eq (a : List Int) (ha : a.length < 1000000000) : f56 a = some (trimL a) := by
  unfold f56
  have h := f56_l0_eq a ha a.length (Nat.le_refl _)
  rw [List.take_length] at h
  rw [h]
  simp only [bind_ok]
  have h2 := f56_l1_eq a ha (trimL a).length (trim_le a) (trimL a).length 0 (by omega)
  rw [show ((0 : Nat) : Int) = 0 from rfl, List.take_zero] at h2
  rw [h2]
  simp only [bind_ok]
  rw [← trim_take]

/-! ### Cmp -/
theorem f68_l0_eq (a b : List Int) (ha : Lim a) (hb : Lim b) (hl : a.length = b.length) (hs : a.length < 1000000000) : ∀ n : Nat, n ≤ a.length → a.drop n = b.drop n →
    f68_l0 a b ((n : Int) - 1) = some (if val a < val b then .ret (-1) else if val b < val a then .ret 1 else .nxt ())
  | 0, _, hd => by
    rw [List.drop_zero, List.drop_zero] at hd; subst hd
    rw [f68_l0, if_neg (by simp), if_neg (by omega), if_neg (by omega)]
  | n + 1, hn, hd => by
    have h1 : n < a.length := by omega
    have h2 : n < b.length := by omega
    rw [f68_l0, if_pos (by simp <;> omega), show (((n + 1 : Nat) : Int) - 1) = (n : Int) by omega, rd_nat h1, rd_nat h2]
    simp only [bind_ok]
    by_cases he : a[n] = b[n]
    · rw [if_neg (by simp [he]), if_neg (by simp [he]), w64 (by omega) (by omega)]
      refine f68_l0_eq a b ha hb hl hs n (by omega) ?_
      rw [List.drop_eq_getElem_cons h1, List.drop_eq_getElem_cons h2, he, hd]
    · have e1 := val_split (l := a) (i := n) (by omega)
      have e2 := val_split (l := b) (i := n) (by omega)
      rw [val_drop h1] at e1; rw [val_drop h2, ← hd] at e2
      have l1 := val_lt (ha.take n); have l2 := val_lt (hb.take n)
      rw [List.length_take, Nat.min_eq_left (by omega)] at l1 l2
      have n1 := val_nonneg (ha.take n); have n2 := val_nonneg (hb.take n)
      have hp := pw_pos n
      rcases Int.lt_or_gt_of_ne he with hlt | hlt
      · have : pw n * (a[n] + 4294967296 * val (a.drop (n + 1)) + 1) ≤ pw n * (b[n] + 4294967296 * val (a.drop (n + 1))) := Int.mul_le_mul_of_nonneg_left (by omega) (by omega)
        rw [Int.mul_add, Int.mul_one] at this
        rw [if_pos (by simpa using hlt), if_pos (by omega)]
      · have : pw n * (b[n] + 4294967296 * val (a.drop (n + 1)) + 1) ≤ pw n * (a[n] + 4294967296 * val (a.drop (n + 1))) := Int.mul_le_mul_of_nonneg_left (by omega) (by omega)
        rw [Int.mul_add, Int.mul_one] at this
        rw [if_neg (by simp; omega), if_pos (by simpa using hlt), if_neg (by omega), if_pos (by omega)]
theorem f68_eq (a b : List Int) (ha : Lim a) (hb : Lim b) (la : a.length < 1000000000) (lb : b.length < 1000000000) : f68 a b = some (cmpZ (val a) (val b)) := by
  unfold f68
  rw [f56_eq a la, f56_eq b lb]
  simp only [bind_ok]
  have na := trim_norm ha; have nb := trim_norm hb
  have ka := trim_le a; have kb := trim_le b
  rw [← trim_val a, ← trim_val b]
  generalize trimL a = x at *; generalize trimL b = y at *
  unfold cmpZ
  by_cases hl : x.length = y.length
  · rw [if_neg (by simp [hl]), if_neg (by simp [hl]), w64 (by omega) (by omega)]
    rw [f68_l0_eq x y na.1 nb.1 hl (by omega) x.length (Nat.le_refl _) (by rw [List.drop_length, hl, List.drop_length])]
    simp only [bind_ok]
    by_cases h1 : val x < val y
    · rw [if_pos h1, if_pos h1]
    · rw [if_neg h1, if_neg h1]
      by_cases h2 : val y < val x
      · rw [if_pos h2, if_pos h2]
      · rw [if_neg h2, if_neg h2]
  · rcases Nat.lt_or_gt_of_ne hl with h | h
    · rw [if_pos (by simp <;> omega), if_pos (Norm.len_lt na.1 nb h)]
    · have := Norm.len_lt nb.1 na h
      rw [if_neg (by simp; omega), if_pos (by simp <;> omega), if_neg (by omega), if_pos this]

/-! ### Minus -/
theorem f69_l0_eq (y : List Int) (hy : Lim y) (x0 : List Int) (hx0 : x0.length < 1000000000) (hyl : y.length ≤ x0.length) : ∀ (k i : Nat) (x : List Int) (b : Int), i + k = x0.length → x.length = x0.length → Lim x → 0 ≤ b → b ≤ 1 → x.drop i = x0.drop i →
    val (x.take i) + val (y.take i) = val (x0.take i) + b * pw i → ∃ x' b', f69_l0 y x b i = some x' ∧ Lim x' ∧ x'.length = x0.length ∧ 0 ≤ b' ∧ b' ≤ 1 ∧ val x' + val y = val x0 + b' * pw x0.length
  | 0, i, x, b, hk, hl, hx, hb, hb2, hd, he => by
    refine ⟨x, b, by rw [f69_l0, if_neg (by simp <;> omega)], hx, hl, hb, hb2, ?_⟩
    rw [List.take_of_length_le (by omega), List.take_of_length_le (by omega), List.take_of_length_le (by omega), show i = x0.length by omega] at he
    exact he
  | k + 1, i, x, b, hk, hl, hx, hb, hb2, hd, he => by
    have k1 : i < x.length := by omega
    have k3 : i < x0.length := by omega
    have kx := hx.get k1
    have hdd : x[i] = x0[i] ∧ x.drop (i + 1) = x0.drop (i + 1) := by
      rw [List.drop_eq_getElem_cons k1, List.drop_eq_getElem_cons k3] at hd
      exact ⟨(List.cons.inj hd).1, (List.cons.inj hd).2⟩
    -- one limb: what is written, what is borrowed
    have step : ∀ (yi e b' : Int), 0 ≤ yi → yi < 4294967296 → val (y.take (i + 1)) = val (y.take i) + pw i * yi → 0 ≤ e → e < 4294967296 → 0 ≤ b' → b' ≤ 1 → e = x[i] - b - yi + 4294967296 * b' →
        ∃ x' b'', f69_l0 y (setL x i e) b' (IntKind.i64.wrap ((i : Int) + 1)) = some x' ∧ Lim x' ∧ x'.length = x0.length ∧ 0 ≤ b'' ∧ b'' ≤ 1 ∧ val x' + val y = val x0 + b'' * pw x0.length := fun yi e b' y0 y1 hyi e0 e1 b0 b1 hee => by
      rw [setN _ rfl, w64 (by omega) (by omega), show ((i : Int) + 1) = ((i + 1 : Nat) : Int) by omega]
      have k1' : i < (x.set i e).length := by simpa using k1
      refine f69_l0_eq y hy x0 hx0 hyl k (i + 1) _ _ (by omega) (by simpa using hl) (hx.set ⟨e0, e1⟩) b0 b1 (by rw [List.drop_set_of_lt (by omega)]; exact hdd.2) ?_
      rw [val_take_succ k1', List.getElem_set_self, List.take_set_of_le (by omega), val_take_succ k3, ← hdd.1, hyi, pw_s, hee]
      grind
    rw [f69_l0, if_pos (by simp <;> omega), rd_nat k1]
    simp only [bind_ok]
    rw [w64 (x := x[i]) (by omega) (by omega), w64 (x := x[i] - b) (by omega) (by omega)]
    by_cases hyi : i < y.length
    · have ky := hy.get hyi
      rw [if_pos (by simp <;> omega), rd_nat hyi]
      simp only [bind_ok]
      rw [w64 (x := y[i]) (by omega) (by omega), w64 (x := x[i] - b - y[i]) (by omega) (by omega)]
      by_cases hn : x[i] - b - y[i] < 0
      · rw [if_pos (by simpa using hn)]
        simp only [bind_ok]
        rw [w64 (x := x[i] - b - y[i] + 4294967296) (by omega) (by omega), wu32 (by omega) (by omega)]
        exact step y[i] _ 1 ky.1 ky.2 (val_take_succ hyi) (by omega) (by omega) (by omega) (by omega) (by omega)
      · rw [if_neg (by simpa using hn)]
        simp only [bind_ok]
        rw [wu32 (by omega) (by omega)]
        exact step y[i] _ 0 ky.1 ky.2 (val_take_succ hyi) (by omega) (by omega) (by omega) (by omega) (by omega)
    · rw [if_neg (by simp; omega)]
      have hyt : val (y.take (i + 1)) = val (y.take i) + pw i * 0 := by rw [List.take_of_length_le (by omega), List.take_of_length_le (by omega)]; omega
      by_cases hn : x[i] - b < 0
      · rw [if_pos (by simpa using hn)]
        simp only [bind_ok]
        rw [w64 (x := x[i] - b + 4294967296) (by omega) (by omega), wu32 (by omega) (by omega)]
        exact step 0 _ 1 (by omega) (by omega) hyt (by omega) (by omega) (by omega) (by omega) (by omega)
      · rw [if_neg (by simpa using hn)]
        simp only [bind_ok]
        rw [wu32 (by omega) (by omega)]
        exact step 0 _ 0 (by omega) (by omega) hyt (by omega) (by omega) (by omega) (by omega) (by omega)
theorem f69_eq (a b : List Int) (ha : Lim a) (hb : Lim b) (la : a.length < 100000000) (lb : b.length < 100000000) (h : val b ≤ val a) : ∃ r, f69 a b = some r ∧ Norm r ∧ val r = val a - val b := by
  unfold f69
  rw [f56_eq a (by omega), f56_eq b (by omega)]
  simp only [bind_ok]
  have na := trim_norm ha; have nb := trim_norm hb
  have ka := trim_le a; have kb := trim_le b
  rw [← trim_val a, ← trim_val b] at *
  generalize trimL a = x at *; generalize trimL b = y at *
  have hyl : y.length ≤ x.length := by
    apply Classical.byContradiction
    intro hc
    have := Norm.len_lt na.1 nb (by omega); omega
  obtain ⟨x', b', h1, h2, h3, h4, h5, h6⟩ := f69_l0_eq y nb.1 x (by omega) hyl x.length 0 x 0 (by omega) rfl na.1 (by omega) (by omega) rfl (by simp [val])
  rw [show ((0 : Nat) : Int) = 0 from rfl] at h1
  rw [h1]
  simp only [bind_ok]
  rw [f56_eq x' (by omega)]
  refine ⟨trimL x', rfl, trim_norm h2, ?_⟩
  rw [trim_val]
  have h7 := val_lt h2
  rw [h3] at h7
  have hb0 : b' = 0 := by
    apply Classical.byContradiction
    intro hc
    have : b' = 1 := by omega
    rw [this] at h6; omega
  rw [hb0] at h6; omega

/-! ### Plus -/
theorem f59_l0_eq (a b : List Int) (ha : Lim a) (hb : Lim b) (la : a.length < 100000000) (lb : b.length < 100000000) : ∀ (k i : Nat) (out : List Int) (c : Int), i + k = max a.length b.length → out.length = i → Lim out → 0 ≤ c → c ≤ 1 →
    val out + c * pw i = val (a.take i) + val (b.take i) → ∃ o c', f59_l0 a b out c i = some (o, c') ∧ Lim o ∧ o.length = max a.length b.length ∧ 0 ≤ c' ∧ c' ≤ 1 ∧ val o + c' * pw o.length = val a + val b
  | 0, i, out, c, hk, hl, ho, hc, hc2, he => by
    refine ⟨out, c, by rw [f59_l0, if_neg (by simp; omega), if_neg (by simp; omega)], ho, by omega, hc, hc2, ?_⟩
    rw [List.take_of_length_le (by omega), List.take_of_length_le (by omega)] at he
    rw [hl]; exact he
  | k + 1, i, out, c, hk, hl, ho, hc, hc2, he => by
    have step : ∀ (s : Int), 0 ≤ s → s < 8589934592 → val (a.take (i + 1)) + val (b.take (i + 1)) = val (a.take i) + val (b.take i) + pw i * (s - c) →
        ∃ o c', f59_l0 a b (out ++ [s % 4294967296]) (s / 4294967296) (IntKind.i64.wrap ((i : Int) + 1)) = some (o, c') ∧ Lim o ∧ o.length = max a.length b.length ∧ 0 ≤ c' ∧ c' ≤ 1 ∧ val o + c' * pw o.length = val a + val b := fun s s0 s1 hse => by
      rw [w64 (by omega) (by omega), show ((i : Int) + 1) = ((i + 1 : Nat) : Int) by omega]
      refine f59_l0_eq a b ha hb la lb k (i + 1) _ _ (by omega) (by simp; omega) (ho.append (Lim.cons (by omega) Lim.nil)) (by omega) (by omega) ?_
      rw [hse, ← he, val_append, val_one, hl, pw_s]
      have e : s = 4294967296 * (s / 4294967296) + s % 4294967296 := by omega
      generalize s / 4294967296 = sh at *
      generalize s % 4294967296 = sl at *
      rw [e]; grind
    rw [f59_l0]
    by_cases h1 : i < a.length
    · have k1 := ha.get h1
      rw [if_pos (by simp <;> omega), rd_nat h1]
      simp only [bind_ok]
      rw [wu64 (x := a[i]) (by omega) (by omega), wu64 (x := c + a[i]) (by omega) (by omega)]
      by_cases h2 : i < b.length
      · have k2 := hb.get h2
        rw [if_pos (by simp <;> omega), rd_nat h2]
        simp only [bind_ok]
        rw [wu64 (x := b[i]) (by omega) (by omega), wu64 (x := c + a[i] + b[i]) (by omega) (by omega), apN (by simp; omega)]
        simp only [bind_ok]
        rw [tmod_pos (by omega), wu32 (by omega) (by omega), quo64 (by omega) (by omega) (by decide)]
        exact step _ (by omega) (by omega) (by rw [val_take_succ h1, val_take_succ h2]; grind)
      · rw [if_neg (by simp; omega), apN (by simp; omega)]
        simp only [bind_ok]
        rw [tmod_pos (by omega), wu32 (by omega) (by omega), quo64 (by omega) (by omega) (by decide)]
        exact step _ (by omega) (by omega) (by rw [val_take_succ h1, List.take_of_length_le (show b.length ≤ i + 1 by omega), List.take_of_length_le (show b.length ≤ i by omega)]; grind)
    · have h2 : i < b.length := by omega
      have k2 := hb.get h2
      rw [if_neg (by simp; omega), if_pos (by simp <;> omega), rd_nat h2]
      simp only [bind_ok]
      rw [wu64 (x := b[i]) (by omega) (by omega), wu64 (x := c + b[i]) (by omega) (by omega), apN (by simp; omega)]
      simp only [bind_ok]
      rw [tmod_pos (by omega), wu32 (by omega) (by omega), quo64 (by omega) (by omega) (by decide)]
      exact step _ (by omega) (by omega) (by rw [val_take_succ h2, List.take_of_length_le (show a.length ≤ i + 1 by omega), List.take_of_length_le (show a.length ≤ i by omega)]; grind)
theorem f59_eq (a b : List Int) (ha : Lim a) (hb : Lim b) (la : a.length < 100000000) (lb : b.length < 100000000) : ∃ r, f59 a b = some r ∧ Norm r ∧ val r = val a + val b ∧ r.length ≤ max a.length b.length + 1 := by
  unfold f59
  obtain ⟨o, c, h1, h2, h3, h4, h5, h6⟩ := f59_l0_eq a b ha hb la lb (max a.length b.length) 0 [] 0 (by omega) rfl Lim.nil (by omega) (by omega) (by simp [val])
  rw [show ((0 : Nat) : Int) = 0 from rfl] at h1
  rw [h1]
  simp only [bind_ok]
  rw [wu32 h4 (by omega), apN (by simp; omega)]
  simp only [bind_ok]
  rw [f56_eq _ (by simp; omega)]
  refine ⟨_, rfl, trim_norm (h2.append (Lim.cons (by omega) Lim.nil)), ?_, ?_⟩
  · rw [trim_val, val_append, val_one, ← h6]; grind
  · have := trim_le (o ++ [c]); simp at this; omega

/-! ### Times -/
theorem f60_l1_eq (x y : List Int) (hx : Lim x) (hy : Lim y) (lx : x.length < 100000000) (ly : y.length < 100000000) (i : Nat) (hi : i < x.length) (o0 : List Int) (hol : i + y.length < o0.length) (hoz : o0.length < 300000000) : ∀ (k j : Nat) (out : List Int) (c : Int), j + k = y.length → out.length = o0.length → Lim out → 0 ≤ c → c < 4294967296 →
    (∀ p, i + y.length ≤ p → out[p]? = o0[p]?) → val out + pw (i + j) * c = val o0 + pw i * (x[i] * val (y.take j)) →
    ∃ o c', f60_l1 x y i out c j = some (o, c') ∧ Lim o ∧ o.length = o0.length ∧ 0 ≤ c' ∧ c' < 4294967296 ∧ (∀ p, i + y.length ≤ p → o[p]? = o0[p]?) ∧ val o + pw (i + y.length) * c' = val o0 + pw i * (x[i] * val y)
  | 0, j, out, c, hk, hl, ho, hc, hc2, hp, he => by
    refine ⟨out, c, by rw [f60_l1, if_neg (by simp <;> omega)], ho, hl, hc, hc2, hp, ?_⟩
    rw [show j = y.length by omega, List.take_length] at he; exact he
  | k + 1, j, out, c, hk, hl, ho, hc, hc2, hp, he => by
    have k1 : j < y.length := by omega
    have k2 : i + j < out.length := by omega
    have kx := hx.get hi; have ky := hy.get k1; have ko := ho.get k2
    rw [f60_l1, if_pos (by simp <;> omega), w64 (x := (i : Int) + j) (by omega) (by omega), rdN (n := i + j) (by omega) k2, rd_nat hi, rd_nat k1]
    simp only [bind_ok]
    have hm0 : 0 ≤ x[i] * y[j] := Int.mul_nonneg kx.1 ky.1
    have hm1 : x[i] * y[j] ≤ 4294967295 * 4294967295 := Int.mul_le_mul (by omega) (by omega) ky.1 (by omega)
    rw [wu64 (x := out[i + j]) (by omega) (by omega), wu64 (x := x[i]) (by omega) (by omega), wu64 (x := y[j]) (by omega) (by omega), wu64 (x := x[i] * y[j]) hm0 (by omega), wu64 (x := out[i + j] + x[i] * y[j]) (by omega) (by omega), wu64 (x := c + (out[i + j] + x[i] * y[j])) (by omega) (by omega)]
    generalize hs : c + (out[i + j] + x[i] * y[j]) = s
    have s0 : 0 ≤ s := by omega
    have s1 : s < 18446744073709551616 := by omega
    rw [tmod_pos s0, wu32 (by omega) (by omega), quo64 s0 s1 (by decide), setN (n := i + j) _ (by omega), w64 (by omega) (by omega), show ((j : Int) + 1) = ((j + 1 : Nat) : Int) by omega]
    refine f60_l1_eq x y hx hy lx ly i hi o0 hol hoz k (j + 1) _ _ (by omega) (by simpa using hl) (ho.set (by omega)) (by omega) (by omega) (fun p hpp => by rw [List.getElem?_set_ne (by omega)]; exact hp p hpp) ?_
    rw [val_set k2, val_take_succ k1, ← Nat.add_assoc, pw_s, pw_add]
    rw [pw_add] at he
    have e : s = 4294967296 * (s / 4294967296) + s % 4294967296 := by omega
    generalize s / 4294967296 = sh at *
    generalize s % 4294967296 = sl at *
    have : x[i] * y[j] = 4294967296 * sh + sl - c - out[i + j] := by omega
    have e3 : pw i * (x[i] * (val (y.take j) + pw j * y[j])) = pw i * (x[i] * val (y.take j)) + pw i * pw j * (x[i] * y[j]) := by grind
    rw [e3, this]
    grind
theorem f60_l0_eq (x y : List Int) (hx : Lim x) (hy : Lim y) (lx : x.length < 100000000) (ly : y.length < 100000000) : ∀ (k i : Nat) (out : List Int), i + k = x.length → out.length = x.length + y.length + 1 → Lim out → (∀ p, i + y.length ≤ p → p < out.length → out[p]? = some 0) → val out = val (x.take i) * val y →
    ∃ o, f60_l0 x y out i = some o ∧ Lim o ∧ o.length = x.length + y.length + 1 ∧ val o = val x * val y
  | 0, i, out, hk, hl, ho, hp, he => by
    refine ⟨out, by rw [f60_l0, if_neg (by simp <;> omega)], ho, hl, ?_⟩
    rw [List.take_of_length_le (by omega)] at he; exact he
  | k + 1, i, out, hk, hl, ho, hp, he => by
    have k1 : i < x.length := by omega
    obtain ⟨o, c, h1, h2, h3, h4, h5, h6, h7⟩ := f60_l1_eq x y hx hy lx ly i k1 out (by omega) (by omega) y.length 0 out 0 (by omega) rfl ho (by omega) (by omega) (fun _ _ => rfl) (by simp [val])
    rw [show ((0 : Nat) : Int) = 0 from rfl] at h1
    have k2 : i + y.length < o.length := by omega
    rw [f60_l0, if_pos (by simp <;> omega), h1]
    simp only [bind_ok]
    rw [w64 (x := (i : Int) + y.length) (by omega) (by omega), rdN (n := i + y.length) (by omega) k2]
    simp only [bind_ok]
    rw [wu32 h4 h5, setN (n := i + y.length) _ (by omega), w64 (by omega) (by omega), show ((i : Int) + 1) = ((i + 1 : Nat) : Int) by omega]
    have hz : o[i + y.length] = 0 := by
      have e1 := h6 (i + y.length) (Nat.le_refl _)
      rw [hp _ (Nat.le_refl _) (by omega)] at e1
      rw [List.getElem?_eq_getElem k2] at e1
      exact Option.some.inj e1
    refine f60_l0_eq x y hx hy lx ly k (i + 1) _ (by omega) (by simp; omega) (h2.set ⟨h4, h5⟩) (fun p hp1 hp2 => ?_) ?_
    · rw [List.getElem?_set_ne (by omega), h6 p (by omega)]
      exact hp p (by omega) (by simp at hp2; omega)
    · rw [val_set k2, hz, val_take_succ k1]
      rw [he] at h7
      grind
theorem f60_eq (a b : List Int) (ha : Lim a) (hb : Lim b) (la : a.length < 100000000) (lb : b.length < 100000000) : ∃ r, f60 a b = some r ∧ Norm r ∧ val r = val a * val b ∧ r.length ≤ a.length + b.length + 1 := by
  unfold f60
  rw [f56_eq a (by omega), f56_eq b (by omega)]
  simp only [bind_ok]
  have na := trim_norm ha; have nb := trim_norm hb
  have ka := trim_le a; have kb := trim_le b
  rw [← trim_val a, ← trim_val b]
  generalize trimL a = x at *; generalize trimL b = y at *
  rw [w64 (x := (x.length : Int) + y.length) (by omega) (by omega), w64 (by omega) (by omega), mkN (n := x.length + y.length + 1) 0 (by omega) (by omega) (by omega)]
  simp only [bind_ok]
  obtain ⟨o, h1, h2, h3, h4⟩ := f60_l0_eq x y na.1 nb.1 (by omega) (by omega) x.length 0 (List.replicate (x.length + y.length + 1) 0) (by omega) (by simp) (Lim.zeros _) (fun p _ hp => by rw [List.length_replicate] at hp; rw [List.getElem?_replicate, if_pos hp]) (by rw [val_zeros, List.take_zero, val_nil]; omega)
  rw [show ((0 : Nat) : Int) = 0 from rfl] at h1
  rw [h1]
  simp only [bind_ok]
  rw [f56_eq o (by omega)]
  exact ⟨trimL o, rfl, trim_norm h2, by rw [trim_val, h4], by have := trim_le o; omega⟩
end Go.Bx.Scan

/- The reference's naturals, in plain Lean: bits, shifting, dividing bit by bit, the greatest common divisor. (Own text.) -/
namespace Go.Bx.Scan
set_option linter.unusedVariables false
set_option linter.unusedSimpArgs false
set_option linter.unusedSectionVars false
open Go.Proofs
set_option linter.unusedVariables false
set_option linter.unusedSimpArgs false

theorem p2_s (n : Nat) : p2 (n + 1) = 2 * p2 n := by unfold p2; rw [Int.pow_succ]; omega
theorem p2_add (m n : Nat) : p2 (m + n) = p2 m * p2 n := by unfold p2; rw [Int.pow_add]
theorem pw_p2 : ∀ n : Nat, pw n = p2 (32 * n)
  | 0 => rfl
  | n + 1 => by rw [pw_s, pw_p2 n, show 32 * (n + 1) = 32 + 32 * n by omega, p2_add]; rfl
theorem p2_dm (n : Nat) : p2 n = pw (n / 32) * p2 (n % 32) := by rw [pw_p2, ← p2_add, Nat.div_add_mod]
theorem p2_mono {m n : Nat} (h : m ≤ n) : p2 m ≤ p2 n := by
  obtain ⟨k, rfl⟩ := Nat.exists_eq_add_of_le h
  rw [p2_add]; have h1 := p2_pos m; have h2 := p2_pos k
  have : p2 m * 1 ≤ p2 m * p2 k := Int.mul_le_mul_of_nonneg_left (by omega) (by omega)
  omega
theorem p2_ge (n : Nat) : (n : Int) < p2 n := by
  induction n with
  | zero => decide
  | succ n ih => rw [p2_s]; have := p2_pos n; omega
/-- Above a limb. -/
theorem val_pw {a : List Int} (ha : Lim a) {k : Nat} (hk : k ≤ a.length) : val a / pw k = val (a.drop k) := by
  have h1 := val_split hk; have h2 := val_nonneg (ha.take k); have h3 := val_lt (ha.take k)
  rw [List.length_take, Nat.min_eq_left hk] at h3
  rw [h1, Int.add_mul_ediv_left _ _ (by have := pw_pos k; omega), Int.ediv_eq_zero_of_lt h2 h3, Int.zero_add]
theorem div_p2 (x : Int) (n : Nat) : x / p2 n = x / pw (n / 32) / p2 (n % 32) := by
  rw [Int.ediv_ediv_of_nonneg (Int.le_of_lt (pw_pos _)), ← p2_dm]

/-- Bit number i. -/
def bitZ (x : Int) (i : Nat) : Int := x / p2 i % 2
theorem f66_eq (a : List Int) (i : Nat) (ha : Lim a) (la : a.length < 100000000) (li : i < 10000000000) : f66 a i = some (decide (bitZ (val a) i = 1)) := by
  unfold f66
  rw [if_neg (by simp), quoi64 (by omega) (by omega) (by decide)]
  unfold bitZ
  rw [div_p2]
  by_cases h : a.length ≤ i / 32
  · rw [if_pos (by simp <;> omega)]
    have h1 := val_lt ha; have h2 := val_nonneg ha
    have h3 : pw a.length ≤ pw (i / 32) := pw_mono h
    rw [Int.ediv_eq_zero_of_lt h2 (by omega)]; simp
  · have hk : i / 32 < a.length := by omega
    have kx := ha.get hk
    rw [if_neg (by simp; omega), show (i : Int) / 32 = ((i / 32 : Nat) : Int) by omega, rd_nat hk]
    simp only [bind_ok]
    rw [tmod_pos (by omega), show (i : Int) % 32 = ((i % 32 : Nat) : Int) by omega, wu64 (by omega) (by omega), nnN (by omega)]
    simp only [bind_ok]
    have hs : i % 32 < 32 := by omega
    generalize hse : i % 32 = s at *
    have hsh : shrI .u32 a[i / 32] (s : Int) = a[i / 32] / p2 s := by
      have : min ((s : Int).toNat) IntKind.u32.bits = s := by simp [IntKind.bits]; omega
      unfold shrI; rw [this]; exact Int.fdiv_eq_ediv_of_nonneg _ (Int.le_of_lt (Int.pow_pos (by decide)))
    have h0 : 0 ≤ a[i / 32] / p2 s := Int.ediv_nonneg kx.1 (Int.le_of_lt (p2_pos s))
    rw [hsh, tmod_pos h0, val_pw ha (by omega), val_drop hk]
    have hps := p2_split (s := s) (by omega)
    have e1 : (a[i / 32] + 4294967296 * val (a.drop (i / 32 + 1))) / p2 s = a[i / 32] / p2 s + p2 (32 - s) * val (a.drop (i / 32 + 1)) := by
      rw [← hps, Int.mul_assoc, Int.add_mul_ediv_left _ _ (by have := p2_pos s; omega)]
    have e2 : p2 (32 - s) = 2 * p2 (31 - s) := by rw [show 32 - s = (31 - s) + 1 by omega, p2_s]
    rw [e1, e2, Int.mul_assoc, Int.add_mul_emod_self_left]
    by_cases hb : a[i / 32] / p2 s % 2 = 1 <;> simp [hb]

/-! ### Shr -/
theorem f67_l0_eq (n : Nat) (a : List Int) (ha : Lim a) (la : a.length < 100000000) (ln : n < 10000000000) : ∀ (k i : Nat) (out : List Int), i + k = a.length → out.length ≤ i → Lim out →
    ∃ o, f67_l0 a n out i = some o ∧ Lim o ∧ o.length ≤ a.length ∧ val o = val out + pw out.length * (val (a.drop i) / p2 (n % 32))
  | 0, i, out, hk, hl, ho => by
    refine ⟨out, by rw [f67_l0, if_neg (by simp <;> omega)], ho, by omega, ?_⟩
    rw [List.drop_of_length_le (by omega), val_nil]; simp
  | k + 1, i, out, hk, hl, ho => by
    have k1 : i < a.length := by omega
    have ka := ha.get k1
    have hs : n % 32 < 32 := by omega
    have hm : IntKind.u64.wrap ((n : Int).tmod 32) = ((n % 32 : Nat) : Int) := by rw [tmod_pos (by omega)]; rw [wu64 (by omega) (by omega)]; omega
    have hst := shr_step hs ka.1 ka.2 (val_nonneg (ha.drop (i + 1)))
    rw [f67_l0, if_pos (by simp <;> omega), rd_nat k1]
    simp only [bind_ok]
    rw [hm, w64 (x := (i : Int) + 1) (by omega) (by omega), wu64 (x := a[i]) (by omega) (by omega)]
    have key : ∀ z : Int, z = (a[i] + 4294967296 * (val (a.drop (i + 1)) % 4294967296)) / p2 (n % 32) % 4294967296 →
        ∃ o, f67_l0 a n (out ++ [z]) ((i : Int) + 1) = some o ∧ Lim o ∧ o.length ≤ a.length ∧ val o = val out + pw out.length * (val (a.drop i) / p2 (n % 32)) := fun z hz => by
      rw [show ((i : Int) + 1) = ((i + 1 : Nat) : Int) by omega]
      obtain ⟨o, h1, h2, h3, h4⟩ := f67_l0_eq n a ha la ln k (i + 1) (out ++ [z]) (by omega) (by simp; omega) (ho.append (Lim.cons (by omega) Lim.nil))
      refine ⟨o, h1, h2, h3, ?_⟩
      rw [h4, val_append, val_one, List.length_append, List.length_singleton, pw_s, val_drop k1, hst, ← hz]
      grind
    by_cases hnx : i + 1 < a.length
    · have kb := ha.get hnx
      rw [if_pos (by simp <;> omega), rdN (n := i + 1) (by omega) hnx]
      simp only [bind_ok]
      rw [wu64 (x := a[i + 1]) (by omega) (by omega), shl32 kb.1 kb.2, wu64 (x := a[i] + a[i + 1] * 4294967296) (by omega) (by omega), nnN (by omega)]
      simp only [bind_ok]
      have h0 : 0 ≤ (a[i] + a[i + 1] * 4294967296) / 2 ^ (n % 32) := Int.ediv_nonneg (by omega) (Int.le_of_lt (p2_pos (n % 32)))
      rw [shrI_64 (by omega), tmod_pos h0, wu32 (by omega) (by omega), apN (by simp; omega)]
      simp only [bind_ok]
      refine key _ ?_
      have : val (a.drop (i + 1)) % 4294967296 = a[i + 1] := by rw [val_drop hnx]; omega
      rw [this, Int.mul_comm]; rfl
    · rw [if_neg (by simp <;> omega), nnN (by omega)]
      simp only [bind_ok]
      have h0 : 0 ≤ a[i] / 2 ^ (n % 32) := Int.ediv_nonneg (by omega) (Int.le_of_lt (p2_pos (n % 32)))
      rw [shrI_64 (by omega), tmod_pos h0, wu32 (by omega) (by omega), apN (by simp; omega)]
      simp only [bind_ok]
      refine key _ ?_
      rw [List.drop_of_length_le (by omega), val_nil]; simp [p2]
theorem f67_eq (a : List Int) (n : Nat) (ha : Lim a) (la : a.length < 100000000) (ln : n < 10000000000) : ∃ r, f67 a n = some r ∧ Norm r ∧ val r = val a / p2 n ∧ r.length ≤ a.length := by
  unfold f67
  rw [quoi64 (by omega) (by omega) (by decide), show (n : Int) / 32 = ((n / 32 : Nat) : Int) by omega, div_p2]
  by_cases h : n / 32 ≤ a.length
  · obtain ⟨o, h1, h2, h3, h4⟩ := f67_l0_eq n a ha la ln (a.length - n / 32) (n / 32) [] (by omega) (by simp) Lim.nil
    rw [h1]
    simp only [bind_ok]
    rw [f56_eq o (by omega)]
    refine ⟨trimL o, rfl, trim_norm h2, ?_, by have := trim_le o; omega⟩
    rw [trim_val, h4, val_pw ha h, List.length_nil, val_nil, pw_0]; omega
  · rw [f67_l0, if_neg (by simp; omega)]
    simp only [bind_ok]
    rw [f56_eq [] (by simp)]
    refine ⟨[], rfl, Norm.nil, ?_, by simp⟩
    have h1 := val_lt ha; have h2 := val_nonneg ha
    have h3 : pw a.length ≤ pw (n / 32) := pw_mono (by omega)
    rw [Int.ediv_eq_zero_of_lt h2 (by omega)]; simp [val]

/-! ### Shl -/
theorem f70_l0_eq (n k0 : Nat) (a : List Int) (ha : Lim a) (la : a.length < 100000000) (ln : n < 10000000000) (hk0 : k0 < 1000000000) : ∀ (k i : Nat) (out : List Int) (c : Int), i + k = a.length → out.length = k0 + i → Lim out → 0 ≤ c → c < p2 (n % 32) →
    val out + pw (k0 + i) * c = pw k0 * (val (a.take i) * p2 (n % 32)) → ∃ o c', f70_l0 a n out c i = some (o, c') ∧ Lim o ∧ o.length = k0 + a.length ∧ 0 ≤ c' ∧ c' < p2 (n % 32) ∧ val o + pw (k0 + a.length) * c' = pw k0 * (val a * p2 (n % 32))
  | 0, i, out, c, hk, hl, ho, hc, hc2, he => by
    refine ⟨out, c, by rw [f70_l0, if_neg (by simp <;> omega)], ho, by omega, hc, hc2, ?_⟩
    rw [show i = a.length by omega, List.take_length] at he; exact he
  | k + 1, i, out, c, hk, hl, ho, hc, hc2, he => by
    have k1 : i < a.length := by omega
    have ka := ha.get k1
    have hs : n % 32 < 32 := by omega
    have hm : IntKind.u64.wrap ((n : Int).tmod 32) = ((n % 32 : Nat) : Int) := by rw [tmod_pos (by omega)]; rw [wu64 (by omega) (by omega)]; omega
    have hp := p2_pos (n % 32); have hp31 := p2_31 hs
    rw [f70_l0, if_pos (by simp <;> omega), rd_nat k1]
    simp only [bind_ok]
    rw [hm, nnN (by omega)]
    simp only [bind_ok]
    have hx0 : 0 ≤ a[i] * p2 (n % 32) := Int.mul_nonneg ka.1 (by omega)
    have hxb : a[i] * p2 (n % 32) ≤ 4294967295 * p2 (n % 32) := Int.mul_le_mul_of_nonneg_right (by omega) (by omega)
    rw [wu64 (x := a[i]) (by omega) (by omega), shlI_64 ka.1 (by omega) (show a[i] * 2 ^ (n % 32) < _ by show a[i] * p2 (n % 32) < _; omega)]
    rw [show a[i] * (2 : Int) ^ (n % 32) = a[i] * p2 (n % 32) from rfl, wu64 (x := a[i] * p2 (n % 32) + c) (by omega) (by omega)]
    generalize hx : a[i] * p2 (n % 32) + c = x
    rw [tmod_pos (by omega), wu32 (by omega) (by omega), apN (by simp; omega)]
    simp only [bind_ok]
    rw [quo64 (by omega) (by omega) (by decide), w64 (by omega) (by omega), show ((i : Int) + 1) = ((i + 1 : Nat) : Int) by omega]
    have hc' : x / 4294967296 < p2 (n % 32) := Int.ediv_lt_of_lt_mul (by decide) (by omega)
    refine f70_l0_eq n k0 a ha la ln hk0 k (i + 1) _ _ (by omega) (by simp; omega) (ho.append (Lim.cons (by omega) Lim.nil)) (by omega) hc' ?_
    rw [val_append, val_one, hl, ← Nat.add_assoc, pw_s, val_take_succ k1]
    have e : x = 4294967296 * (x / 4294967296) + x % 4294967296 := by omega
    have e3 : pw k0 * ((val (a.take i) + pw i * a[i]) * p2 (n % 32)) = pw k0 * (val (a.take i) * p2 (n % 32)) + pw k0 * pw i * (a[i] * p2 (n % 32)) := by grind
    have e4 : a[i] * p2 (n % 32) = x - c := by omega
    rw [e3, ← he, e4, ← pw_add]
    generalize x / 4294967296 = xh at *
    generalize x % 4294967296 = xl at *
    rw [e]; grind
theorem f70_eq (a : List Int) (n : Nat) (ha : Lim a) (la : a.length < 10000000) (ln : n < 1000000000) : ∃ r, f70 a n = some r ∧ Norm r ∧ val r = val a * p2 n ∧ r.length ≤ a.length + n / 32 + 1 := by
  unfold f70
  rw [quoi64 (by omega) (by omega) (by decide), mkN (n := n / 32) 0 (by omega) (by omega) (by omega)]
  simp only [bind_ok]
  obtain ⟨o, c, h1, h2, h3, h4, h5, h6⟩ := f70_l0_eq n (n / 32) a ha (by omega) (by omega) (by omega) a.length 0 (List.replicate (n / 32) 0) 0 (by omega) (by simp) (Lim.zeros _) (by omega) (p2_pos _) (by rw [val_zeros]; simp [val])
  rw [show ((0 : Nat) : Int) = 0 from rfl] at h1
  rw [h1]
  simp only [bind_ok]
  have := p2_31 (s := n % 32) (by omega)
  rw [wu32 h4 (by omega), apN (by simp; omega)]
  simp only [bind_ok]
  rw [f56_eq _ (by simp; omega)]
  refine ⟨_, rfl, trim_norm (h2.append (Lim.cons (by omega) Lim.nil)), ?_, ?_⟩
  · rw [trim_val, val_append, val_one, h3, h6, p2_dm n]; grind
  · have := trim_le (o ++ [c]); simp at this; omega

/-! ### Bits -/
theorem f71_l0_eq : ∀ (k : Nat) (n : Nat) (x : Int), 0 ≤ x → x < p2 k → k ≤ 32 → n + k < 100000000000 → ∃ t : Nat, f71_l0 n x = some ((n + t : Nat) : Int) ∧ x < p2 t ∧ t ≤ k
  | 0, n, x, h0, h1, hk, hn => by
    refine ⟨0, by rw [f71_l0, if_neg (by simp; have : p2 0 = 1 := rfl; omega)]; simp, h1, Nat.le_refl _⟩
  | k + 1, n, x, h0, h1, hk, hn => by
    have hb := p2_le (s := k + 1) (by omega)
    rw [f71_l0]
    by_cases hx : x = 0
    · subst hx
      exact ⟨0, by rw [if_neg (by simp)]; simp, by decide, by omega⟩
    · have p1 := p2_s k
      rw [if_pos (by simp <;> omega), w64 (x := (n : Int) + 1) (by omega) (by omega)]
      have : quoI .u32 x 2 = x / 2 := by unfold quoI; exact IntWalk.u32_quo x 2 ⟨h0, by omega, by decide⟩
      rw [this, show ((n : Int) + 1) = ((n + 1 : Nat) : Int) by omega]
      obtain ⟨t, h2, h3, h4⟩ := f71_l0_eq k (n + 1) (x / 2) (by omega) (by omega) (by omega) (by omega)
      have p3 := p2_s t
      exact ⟨t + 1, by rw [h2]; congr 2; omega, by omega, by omega⟩
theorem f71_eq (a : List Int) (ha : Lim a) (la : a.length < 100000000) : ∃ t : Nat, f71 a = some (t : Int) ∧ val a < p2 t ∧ t ≤ 32 * a.length := by
  unfold f71
  rw [f56_eq a (by omega)]
  simp only [bind_ok]
  have na := trim_norm ha; have ka := trim_le a
  rw [← trim_val a]
  generalize trimL a = x at *
  by_cases h0 : x.length = 0
  · rw [if_pos (by simp [h0])]
    have : x = [] := List.length_eq_zero_iff.1 h0
    subst this
    exact ⟨0, rfl, by decide, by omega⟩
  · obtain ⟨m, hm⟩ : ∃ m, x.length = m + 1 := ⟨x.length - 1, by omega⟩
    have k1 : m < x.length := by omega
    have kx := na.1.get k1
    rw [if_neg (by rw [beq_iff_eq]; omega), w64 (x := (x.length : Int) - 1) (by omega) (by omega), w64 (x := 32 * ((x.length : Int) - 1)) (by omega) (by omega)]
    rw [rdN (n := m) (by omega) k1]
    simp only [bind_ok]
    rw [show 32 * ((x.length : Int) - 1) = ((32 * m : Nat) : Int) by omega]
    obtain ⟨t, h1, h2, h3⟩ := f71_l0_eq 32 (32 * m) x[m] kx.1 kx.2 (Nat.le_refl _) (by omega)
    rw [h1]
    refine ⟨32 * m + t, rfl, ?_, by omega⟩
    have e := val_split (l := x) (i := m) (by omega)
    rw [val_drop k1, List.drop_of_length_le (by omega), val_nil, Int.mul_zero, Int.add_zero] at e
    have e2 := val_lt (na.1.take m)
    rw [List.length_take, Nat.min_eq_left (by omega)] at e2
    have e3 : pw m * (x[m] + 1) ≤ pw m * p2 t := Int.mul_le_mul_of_nonneg_left (by omega) (Int.le_of_lt (pw_pos m))
    rw [Int.mul_add, Int.mul_one] at e3
    rw [p2_add, ← pw_p2]; omega

/-! ### Divide -/
theorem bit_step (x : Int) (i : Nat) : x / p2 i = 2 * (x / p2 (i + 1)) + bitZ x i := by
  unfold bitZ
  have : x / p2 (i + 1) = x / p2 i / 2 := by rw [p2_s, Int.mul_comm, Int.ediv_ediv_of_nonneg (Int.le_of_lt (p2_pos i))]
  rw [this]; omega
theorem bit_01 (x : Int) (i : Nat) : bitZ x i = 0 ∨ bitZ x i = 1 := by unfold bitZ; omega
/-- A bit is put where there is none yet. -/
theorem set_bit {q : List Int} (hq : Lim q) {i : Nat} {Q : Int} (hk : i / 32 < q.length) (hv : val q = p2 (i + 1) * Q) :
    q[i / 32] + p2 (i % 32) < 4294967296 ∧ val (q.set (i / 32) (q[i / 32] + p2 (i % 32))) = p2 i * (2 * Q + 1) := by
  have kx := hq.get hk
  refine ⟨?_, ?_⟩
  · have hs : i % 32 < 32 := by omega
    have hpi : p2 (i + 1) = pw (i / 32) * p2 (i % 32 + 1) := by rw [p2_s, p2_s, p2_dm i]; grind
    have h1 := val_pw hq (k := i / 32) (by omega)
    rw [val_drop hk, hv, hpi, Int.mul_assoc, Int.mul_ediv_cancel_left _ (by have := pw_pos (i / 32); omega)] at h1
    generalize val (q.drop (i / 32 + 1)) = r at *
    generalize i % 32 = s at *
    have hps := p2_split (s := s + 1) (by omega)
    have hp := p2_pos (s + 1)
    have e1 : q[i / 32] = p2 (s + 1) * (Q - p2 (32 - (s + 1)) * r) := by rw [Int.mul_sub, ← Int.mul_assoc, hps]; omega
    generalize Q - p2 (32 - (s + 1)) * r = z at *
    have hz : z < p2 (32 - (s + 1)) := by
      apply Classical.byContradiction
      intro hc
      have : p2 (s + 1) * p2 (32 - (s + 1)) ≤ p2 (s + 1) * z := Int.mul_le_mul_of_nonneg_left (by omega) (by omega)
      omega
    have h2 : p2 (s + 1) * (z + 1) ≤ p2 (s + 1) * p2 (32 - (s + 1)) := Int.mul_le_mul_of_nonneg_left (by omega) (by omega)
    rw [Int.mul_add, Int.mul_one] at h2
    have := p2_s s; have := p2_pos s
    omega
  · rw [val_set hk, hv, p2_s, p2_dm i]; grind
theorem f58_l0_eq (a b : List Int) (ha : Lim a) (hb : Lim b) (la : a.length < 1000000) (lb : b.length < 1000000) (hb0 : 0 < val b) : ∀ (i : Nat) (q r : List Int), i ≤ 32 * a.length → Lim q → q.length * 32 > i → Norm r → val r < val b → (∃ Q, val q = p2 i * Q ∧ val a / p2 i = val b * Q + val r) →
    ∃ q' r', f58_l0 a b q r ((i : Int) - 1) = some (q', r') ∧ Lim q' ∧ q'.length = q.length ∧ Norm r' ∧ val r' < val b ∧ val a = val b * val q' + val r'
  | 0, q, r, hi, hq, hql, hr, hrb, ⟨Q, h1, h2⟩ => by
    refine ⟨q, r, by rw [f58_l0, if_neg (by simp)], hq, rfl, hr, hrb, ?_⟩
    have e : p2 0 = 1 := rfl
    rw [e] at h1 h2; rw [Int.ediv_one] at h2; rw [h2, h1, Int.one_mul]
  | i + 1, q, r, hi, hq, hql, hr, hrb, ⟨Q, h1, h2⟩ => by
    have hrl : r.length ≤ b.length := hr.len_le (by have := val_lt hb; omega)
    have hi1 : i < 10000000000 := by omega
    have hbs := bit_step (val a) i
    have hb1 := bit_01 (val a) i
    obtain ⟨r6, g1, g2, g3, g4⟩ := f70_eq r 1 hr.1 (by omega) (by decide)
    have g3' : val r6 = 2 * val r := by rw [g3]; have : p2 1 = 2 := rfl; rw [this]; omega
    -- the rest, with the bit behind it
    have rest : ∀ (r' : List Int), Norm r' → val r' = 2 * val r + bitZ (val a) i → ∃ (q2 r2 : List Int), (f68 r' b >>= fun r10 => if decide (r10 ≥ 0) = true then (f69 r' b >>= fun r12 => rd q (quoI .i64 i 32) >>= fun e13 => nn (IntKind.u64.wrap ((i : Int).tmod 32)) >>= fun u14 => some (setL q (quoI .i64 i 32) (IntKind.u32.wrap (e13 + (shlI .u32 1 (IntKind.u64.wrap ((i : Int).tmod 32))))), r12)) else some (q, r')) = some (q2, r2) ∧ Lim q2 ∧ q2.length = q.length ∧ Norm r2 ∧ val r2 < val b ∧ (∃ Q2, val q2 = p2 i * Q2 ∧ val a / p2 i = val b * Q2 + val r2) := fun r' hr' hv => by
      have hr'l : r'.length ≤ b.length + 1 := hr'.len_le (by have h3 := val_lt hb; have h4 : pw (b.length + 1) = 4294967296 * pw b.length := pw_s _; omega)
      have hr0 := val_nonneg hr.1
      rw [f68_eq r' b hr'.1 hb (by omega) (by omega)]
      simp only [bind_ok]
      unfold cmpZ
      by_cases hc : val r' < val b
      · rw [if_pos hc, if_neg (by decide)]
        refine ⟨q, r', rfl, hq, rfl, hr', hc, 2 * Q, ?_, ?_⟩
        · rw [h1, p2_s]; grind
        · rw [hbs, h2, hv]; grind
      · rw [if_neg hc, if_pos (by split <;> decide)]
        obtain ⟨r12, k1, k2, k3⟩ := f69_eq r' b hr'.1 hb (by omega) (by omega) (by omega)
        rw [k1]
        simp only [bind_ok]
        have hk : i / 32 < q.length := by omega
        have kq := hq.get hk
        obtain ⟨s1, s2⟩ := set_bit hq hk h1
        rw [quoi64 (by omega) (by omega) (by decide), show (i : Int) / 32 = ((i / 32 : Nat) : Int) by omega, rd_nat hk]
        simp only [bind_ok]
        rw [tmod_pos (by omega), show (i : Int) % 32 = ((i % 32 : Nat) : Int) by omega, wu64 (by omega) (by omega), nnN (by omega)]
        simp only [bind_ok]
        have hp := p2_pos (i % 32); have hp31 := p2_31 (s := i % 32) (by omega)
        have hsh : shlI .u32 1 ((i % 32 : Nat) : Int) = p2 (i % 32) := by
          have : min (((i % 32 : Nat) : Int).toNat) IntKind.u32.bits = i % 32 := by simp [IntKind.bits]; omega
          unfold shlI; rw [this, Int.one_mul]; exact wu32 (by show 0 ≤ p2 _; omega) (by show p2 _ < _; omega)
        rw [hsh, wu32 (by omega) s1, setN (n := i / 32) _ rfl]
        refine ⟨_, r12, rfl, hq.set ⟨by omega, s1⟩, by simp, k2, by omega, 2 * Q + 1, s2, ?_⟩
        rw [hbs, h2, k3, hv]; grind
    have go : ∀ (q2 r2 : List Int), Lim q2 → q2.length = q.length → Norm r2 → val r2 < val b → (∃ Q2, val q2 = p2 i * Q2 ∧ val a / p2 i = val b * Q2 + val r2) → ∃ q' r', f58_l0 a b q2 r2 (IntKind.i64.wrap ((i : Int) - 1)) = some (q', r') ∧ Lim q' ∧ q'.length = q.length ∧ Norm r' ∧ val r' < val b ∧ val a = val b * val q' + val r' := fun q2 r2 l1 l2 l3 l4 l5 => by
      rw [w64 (by omega) (by omega)]
      obtain ⟨q', r', m1, m2, m3, m4⟩ := f58_l0_eq a b ha hb la lb hb0 i q2 r2 (by omega) l1 (by omega) l3 l4 l5
      exact ⟨q', r', m1, m2, by omega, m4⟩
    rw [f58_l0, if_pos (by simp <;> omega), show ((i + 1 : Nat) : Int) - 1 = (i : Int) by omega]
    rw [show f70 r (1 : Int) = f70 r ((1 : Nat) : Int) from rfl, g1]
    simp only [bind_ok]
    rw [f66_eq a i ha (by omega) hi1]
    simp only [bind_ok]
    rcases hb1 with hb1 | hb1
    · rw [if_neg (by simp [hb1])]
      obtain ⟨q2, r2, n1, n2, n3, n4, n5, n6⟩ := rest r6 g2 (by rw [g3', hb1]; omega)
      rw [n1]
      simp only [bind_ok]
      exact go q2 r2 n2 n3 n4 n5 n6
    · rw [if_pos (by simp [hb1])]
      obtain ⟨r9, p1, p2', p3, p4⟩ := f59_eq r6 [1] g2.1 (Lim.cons (by omega) Lim.nil) (by omega) (by simp)
      rw [p1]
      simp only [bind_ok]
      obtain ⟨q2, r2, n1, n2, n3, n4, n5, n6⟩ := rest r9 p2' (by rw [p3, g3', hb1, val_one])
      rw [n1]
      simp only [bind_ok]
      exact go q2 r2 n2 n3 n4 n5 n6
theorem f58_eq (a b : List Int) (ha : Lim a) (hb : Lim b) (la : a.length < 1000000) (lb : b.length < 1000000) (hb0 : 0 < val b) : ∃ q r, f58 a b = some (q, r) ∧ Norm q ∧ Norm r ∧ val q = val a / val b ∧ val r = val a % val b := by
  unfold f58
  obtain ⟨t, h1, h2, h3⟩ := f71_eq a ha (by omega)
  rw [h1]
  simp only [bind_ok]
  rw [quoi64 (by omega) (by omega) (by decide), w64 (x := (t : Int) / 32 + 1) (by omega) (by omega), mkN (n := t / 32 + 1) 0 (by omega) (by omega) (by omega)]
  simp only [bind_ok]
  rw [w64 (by omega) (by omega)]
  have h0 := val_nonneg ha
  obtain ⟨q, r, g1, g2, g3, g4, g5, g6⟩ := f58_l0_eq a b ha hb la lb hb0 t (List.replicate (t / 32 + 1) 0) [] h3 (Lim.zeros _) (by simp; omega) Norm.nil hb0 ⟨0, by rw [val_zeros]; simp, by rw [Int.ediv_eq_zero_of_lt h0 h2]; simp [val]⟩
  rw [g1]
  simp only [bind_ok]
  rw [List.length_replicate] at g3
  rw [f56_eq q (by omega)]
  have hr0 := val_nonneg g4.1
  refine ⟨trimL q, r, rfl, trim_norm g2, g4, ?_, ?_⟩
  · rw [trim_val, g6, Int.add_comm, Int.add_mul_ediv_left _ _ (by omega), Int.ediv_eq_zero_of_lt hr0 g5, Int.zero_add]
  · rw [g6, Int.add_comm, Int.add_mul_emod_self_left, Int.emod_eq_of_lt hr0 g5]
end Go.Bx.Scan

/- The reference's greatest common divisor; ratios: the program's Make is the reference's. (Own text.) -/
namespace Go.Bx.Scan
set_option linter.unusedVariables false
set_option linter.unusedSimpArgs false
set_option linter.unusedSectionVars false
open Go.Proofs
set_option linter.unusedVariables false
set_option linter.unusedSimpArgs false

theorem gcdZ_comm (a b : Int) : gcdZ a b = gcdZ b a := by unfold gcdZ; rw [Nat.gcd_comm]
theorem gcdZ_nat (m n : Nat) : gcdZ (m : Int) (n : Int) = (Nat.gcd m n : Int) := rfl
theorem gcdZ_mul {p x y : Int} (hp : 0 ≤ p) (hx : 0 ≤ x) (hy : 0 ≤ y) : gcdZ (x * p) (y * p) = gcdZ x y * p := by
  obtain ⟨k, rfl⟩ := Int.eq_ofNat_of_zero_le hp
  obtain ⟨m, rfl⟩ := Int.eq_ofNat_of_zero_le hx
  obtain ⟨n, rfl⟩ := Int.eq_ofNat_of_zero_le hy
  rw [← Int.natCast_mul, ← Int.natCast_mul, gcdZ_nat, gcdZ_nat, Nat.gcd_mul_right, Int.natCast_mul]
/-- A two goes out where the other is odd. -/
theorem gcdZ_half {x y : Int} (hx : 0 ≤ x) (hy : 0 ≤ y) (hev : x % 2 = 0) (hod : y % 2 = 1) : gcdZ (x / 2) y = gcdZ x y := by
  obtain ⟨m, rfl⟩ := Int.eq_ofNat_of_zero_le hx
  obtain ⟨n, rfl⟩ := Int.eq_ofNat_of_zero_le hy
  obtain ⟨j, rfl⟩ : ∃ j, m = 2 * j := ⟨m / 2, by omega⟩
  have : ((2 * j : Nat) : Int) / 2 = (j : Int) := by omega
  rw [this, gcdZ_nat, gcdZ_nat]
  have hc : Nat.Coprime 2 n := by
    have h2 : n % 2 = 1 := by omega
    unfold Nat.Coprime
    rw [Nat.gcd_rec, h2]; decide
  rw [Nat.Coprime.gcd_mul_left_cancel j hc]
theorem gcdZ_sub {x y : Int} (hy : 0 ≤ y) (h : y ≤ x) : gcdZ (x - y) y = gcdZ x y := by
  obtain ⟨n, rfl⟩ := Int.eq_ofNat_of_zero_le hy
  obtain ⟨m, rfl⟩ := Int.eq_ofNat_of_zero_le (Int.le_trans hy h)
  have : ((m : Int) - n) = ((m - n : Nat) : Int) := by omega
  rw [this, gcdZ_nat, gcdZ_nat]
  have e : m = (m - n) + n := by omega
  conv => rhs; rw [e]
  rw [Nat.gcd_add_self_left]
theorem gcdZ_pos {x y : Int} (hx : 0 < x) : 0 < gcdZ x y := by
  obtain ⟨m, rfl⟩ := Int.eq_ofNat_of_zero_le (Int.le_of_lt hx)
  unfold gcdZ
  have : 0 < Nat.gcd ((m : Int)).toNat y.toNat := Nat.gcd_pos_of_pos_left _ (by omega)
  omega
theorem gcdZ_le {x y : Int} (hx : 0 < x) : gcdZ x y ≤ x := by
  obtain ⟨m, rfl⟩ := Int.eq_ofNat_of_zero_le (Int.le_of_lt hx)
  unfold gcdZ
  have : Nat.gcd ((m : Int)).toNat y.toNat ≤ ((m : Int)).toNat := Nat.gcd_le_left _ (by omega)
  omega

/-- Twos that both have. -/
theorem f57_l0_eq (a b : List Int) (ha : Lim a) (hb : Lim b) (la : a.length < 1000000) (lb : b.length < 1000000) (ha0 : 0 < val a) : ∀ (k i : Nat), i + k = 32 * a.length + 1 → (∃ x y, val a = x * p2 i ∧ val b = y * p2 i) →
    ∃ t : Nat, f57_l0 a b i = some (t : Int) ∧ t ≤ 32 * a.length ∧ ∃ x y, val a = x * p2 t ∧ val b = y * p2 t ∧ (x % 2 = 1 ∨ y % 2 = 1)
  | 0, i, hk, ⟨x, y, hx, hy⟩ => by
    exfalso
    have h1 := val_lt ha
    rw [pw_p2] at h1
    have h2 : p2 (32 * a.length) ≤ p2 i := p2_mono (by omega)
    have hp := p2_pos i
    have hx1 : x < 1 := by
      apply Classical.byContradiction
      intro hc
      have : 1 * p2 i ≤ x * p2 i := Int.mul_le_mul_of_nonneg_right (by omega) (by omega)
      omega
    have : x * p2 i ≤ 0 * p2 i := Int.mul_le_mul_of_nonneg_right (by omega) (by omega)
    omega
  | k + 1, i, hk, ⟨x, y, hx, hy⟩ => by
    have hp := p2_pos i
    have bx : bitZ (val a) i = x % 2 := by unfold bitZ; rw [hx, Int.mul_ediv_cancel _ (by omega)]
    have by_ : bitZ (val b) i = y % 2 := by unfold bitZ; rw [hy, Int.mul_ediv_cancel _ (by omega)]
    rw [f57_l0, f66_eq a i ha (by omega) (by omega)]
    simp only [bind_ok]
    by_cases h1 : x % 2 = 1
    · rw [if_neg (by simp [bx, h1])]
      exact ⟨i, rfl, by omega, x, y, hx, hy, .inl h1⟩
    · rw [if_pos (by simp [bx, h1]), f66_eq b i hb (by omega) (by omega)]
      simp only [bind_ok]
      by_cases h2 : y % 2 = 1
      · rw [if_neg (by simp [by_, h2])]
        exact ⟨i, rfl, by omega, x, y, hx, hy, .inr h2⟩
      · rw [if_pos (by simp [by_, h2]), w64 (by omega) (by omega), show ((i : Int) + 1) = ((i + 1 : Nat) : Int) by omega]
        refine f57_l0_eq a b ha hb la lb ha0 k (i + 1) (by omega) ⟨x / 2, y / 2, ?_, ?_⟩
        · rw [hx, p2_s, ← Int.mul_assoc, show x / 2 * 2 = x by omega]
        · rw [hy, p2_s, ← Int.mul_assoc, show y / 2 * 2 = y by omega]
theorem bit0 (x : Int) : bitZ x 0 = x % 2 := by unfold bitZ; rw [show p2 0 = 1 from rfl, Int.ediv_one]
/-- Halving and taking off. -/
theorem f57_l1_eq (L : Nat) (hL : L < 1000000) (G : Int) : ∀ (k : Nat) (a b : List Int), (val a + val b).toNat ≤ k → Norm a → Norm b → a.length ≤ L → b.length ≤ L → (val a % 2 = 1 ∨ val b % 2 = 1) → gcdZ (val a) (val b) = G →
    ∃ x y, f57_l1 a b = some (x, y) ∧ Norm x ∧ Norm y ∧ x.length ≤ L ∧ y.length ≤ L ∧ val x + val y = G
  | k, a, b, hk, ha, hb, la, lb, hodd, hG => by
    have a0 := val_nonneg ha.1; have b0 := val_nonneg hb.1
    by_cases h1 : a = []
    · subst h1
      refine ⟨[], b, by rw [f57_l1, if_neg (by simp)], ha, hb, la, lb, ?_⟩
      rw [← hG, gcdZ_comm, val_nil, gcdZ_zero b0]; omega
    · have al : 0 < a.length := List.length_pos_iff.2 h1
      have ap := ha.pos h1
      by_cases h2 : b = []
      · subst h2
        refine ⟨a, [], by rw [f57_l1, if_pos (by simp <;> omega), if_neg (by simp)], ha, hb, la, lb, ?_⟩
        rw [← hG, val_nil, gcdZ_zero a0]; omega
      · have bl : 0 < b.length := List.length_pos_iff.2 h2
        have bp := hb.pos h2
        match k with
        | 0 => omega
        | k + 1 =>
          rw [f57_l1, if_pos (by simp <;> omega), if_pos (by simp <;> omega), show f66 a 0 = f66 a ((0 : Nat) : Int) from rfl, f66_eq a 0 ha.1 (by omega) (by decide), bit0]
          simp only [bind_ok]
          by_cases c1 : val a % 2 = 1
          · rw [if_neg (by simp [c1]), show f66 b 0 = f66 b ((0 : Nat) : Int) from rfl, f66_eq b 0 hb.1 (by omega) (by decide), bit0]
            simp only [bind_ok]
            by_cases c2 : val b % 2 = 1
            · rw [if_neg (by simp [c2]), f68_eq a b ha.1 hb.1 (by omega) (by omega)]
              simp only [bind_ok]
              unfold cmpZ
              by_cases c3 : val a < val b
              · rw [if_pos c3, if_neg (by decide)]
                obtain ⟨r, r1, r2, r3⟩ := f69_eq b a hb.1 ha.1 (by omega) (by omega) (by omega)
                rw [r1]
                simp only [bind_ok]
                have rl : r.length ≤ b.length := r2.len_le (by have := val_lt hb.1; omega)
                exact f57_l1_eq L hL G k a r (by omega) ha r2 la (by omega) (.inl c1) (by rw [r3, gcdZ_comm, gcdZ_sub a0 (by omega), gcdZ_comm]; exact hG)
              · rw [if_neg c3, if_pos (by split <;> decide)]
                obtain ⟨r, r1, r2, r3⟩ := f69_eq a b ha.1 hb.1 (by omega) (by omega) (by omega)
                rw [r1]
                simp only [bind_ok]
                have rl : r.length ≤ a.length := r2.len_le (by have := val_lt ha.1; omega)
                exact f57_l1_eq L hL G k r b (by omega) r2 hb (by omega) lb (.inr c2) (by rw [r3, gcdZ_sub b0 (by omega)]; exact hG)
            · rw [if_pos (by simp [c2])]
              obtain ⟨r, r1, r2, r3, r4⟩ := f67_eq b 1 hb.1 (by omega) (by decide)
              rw [show f67 b (1 : Int) = f67 b ((1 : Nat) : Int) from rfl, r1]
              simp only [bind_ok]
              rw [show p2 1 = 2 from rfl] at r3
              exact f57_l1_eq L hL G k a r (by omega) ha r2 la (by omega) (.inl c1) (by rw [r3, gcdZ_comm, gcdZ_half b0 a0 (by omega) c1, gcdZ_comm]; exact hG)
          · rw [if_pos (by simp [c1])]
            obtain ⟨r, r1, r2, r3, r4⟩ := f67_eq a 1 ha.1 (by omega) (by decide)
            rw [show f67 a (1 : Int) = f67 a ((1 : Nat) : Int) from rfl, r1]
            simp only [bind_ok]
            rw [show p2 1 = 2 from rfl] at r3
            have c2 : val b % 2 = 1 := by rcases hodd with h | h; exact absurd h c1; exact h
            exact f57_l1_eq L hL G k r b (by omega) r2 hb (by omega) lb (.inr c2) (by rw [r3, gcdZ_half a0 b0 (by omega) c2]; exact hG)
theorem f57_eq (a b : List Int) (ha : Lim a) (hb : Lim b) (la : a.length < 1000000) (lb : b.length < 1000000) : ∃ g, f57 a b = some g ∧ Norm g ∧ val g = gcdZ (val a) (val b) := by
  unfold f57
  rw [f56_eq a (by omega), f56_eq b (by omega)]
  simp only [bind_ok]
  have na := trim_norm ha; have nb := trim_norm hb
  have ka := trim_le a; have kb := trim_le b
  rw [← trim_val a, ← trim_val b]
  generalize trimL a = x at *; generalize trimL b = y at *
  have x0 := val_nonneg na.1; have y0 := val_nonneg nb.1
  by_cases h1 : x = []
  · subst h1
    rw [if_pos (by simp)]
    exact ⟨y, rfl, nb, by rw [gcdZ_comm, val_nil, gcdZ_zero y0]⟩
  · have xl : 0 < x.length := List.length_pos_iff.2 h1
    rw [if_neg (by rw [beq_iff_eq]; omega)]
    by_cases h2 : y = []
    · subst h2
      rw [if_pos (by simp)]
      exact ⟨x, rfl, na, by rw [val_nil, gcdZ_zero x0]⟩
    · have yl : 0 < y.length := List.length_pos_iff.2 h2
      rw [if_neg (by rw [beq_iff_eq]; omega)]
      obtain ⟨t, t1, t2, u, v, t3, t4, t5⟩ := f57_l0_eq x y na.1 nb.1 (by omega) (by omega) (na.pos h1) (32 * x.length + 1) 0 (by omega) ⟨val x, val y, by rw [show p2 0 = 1 from rfl]; omega, by rw [show p2 0 = 1 from rfl]; omega⟩
      rw [show ((0 : Nat) : Int) = 0 from rfl] at t1
      rw [t1]
      simp only [bind_ok]
      have hp := p2_pos t
      obtain ⟨r7, g1, g2, g3, g4⟩ := f67_eq x t na.1 (by omega) (by omega)
      obtain ⟨r8, k1, k2, k3, k4⟩ := f67_eq y t nb.1 (by omega) (by omega)
      rw [g1, k1]
      simp only [bind_ok]
      rw [t3, Int.mul_ediv_cancel _ (by omega)] at g3
      rw [t4, Int.mul_ediv_cancel _ (by omega)] at k3
      have u0 : 0 ≤ u := by rw [← g3]; exact val_nonneg g2.1
      have v0 : 0 ≤ v := by rw [← k3]; exact val_nonneg k2.1
      obtain ⟨p, q, m1, m2, m3, m4, m5, m6⟩ := f57_l1_eq (max x.length y.length) (by omega) (gcdZ u v) _ r7 r8 (Nat.le_refl _) g2 k2 (by omega) (by omega) (by rw [g3, k3]; exact t5) (by rw [g3, k3])
      rw [m1]
      simp only [bind_ok]
      obtain ⟨r10, n1, n2, n3, n4⟩ := f59_eq p q m2.1 m3.1 (by omega) (by omega)
      rw [n1]
      simp only [bind_ok]
      obtain ⟨r11, o1, o2, o3, o4⟩ := f70_eq r10 t n2.1 (by omega) (by omega)
      rw [o1]
      simp only [bind_ok]
      refine ⟨r11, rfl, o2, ?_⟩
      rw [o3, n3, m6, t3, t4, gcdZ_mul (by omega) u0 v0]

/-! ### Make -/
/-- A ratio in its lowest terms, or what stands against it. -/
def makeZ (neg : Bool) (n d : Int) : Option (Ratio × Int) → Prop := fun r => ∃ x, r = some x ∧ (
  if d = 0 then x = (⟨false, [], []⟩, 10) else if n = 0 then x = (⟨false, [], [1]⟩, 0) else
    ∃ p q : List Int, Norm p ∧ Norm q ∧ val p = n / gcdZ n d ∧ val q = d / gcdZ n d ∧ x = if p.length > 16 ∨ q.length > 16 then (⟨false, [], []⟩, 4) else (⟨neg, p, q⟩, 0))
theorem makeZ_eq {neg : Bool} {n d : Int} {r s : Option (Ratio × Int)} (h : makeZ neg n d r) (k : makeZ neg n d s) : r = s := by
  obtain ⟨x, rfl, hx⟩ := h
  obtain ⟨y, rfl, hy⟩ := k
  congr 1
  split at hx
  · rename_i hd; rw [if_pos hd] at hy; rw [hx, hy]
  · rename_i hd; rw [if_neg hd] at hy
    split at hx
    · rename_i hn; rw [if_pos hn] at hy; rw [hx, hy]
    · rename_i hn; rw [if_neg hn] at hy
      obtain ⟨p, q, a1, a2, a3, a4, rfl⟩ := hx
      obtain ⟨p', q', b1, b2, b3, b4, rfl⟩ := hy
      rw [a1.eq b1 (by rw [a3, b3]), a2.eq b2 (by rw [a4, b4])]
theorem lenIf {ρ : Type} (p q : List Int) (e o : ρ) : (if decide ((p.length : Int) > 16) = true then some e else if decide ((q.length : Int) > 16) = true then some e else some o) = some (if p.length > 16 ∨ q.length > 16 then e else o) := by
  by_cases h1 : p.length > 16
  · rw [if_pos (by simp; omega), if_pos (.inl h1)]
  · rw [if_neg (by simp; omega)]
    by_cases h2 : q.length > 16
    · rw [if_pos (by simp; omega), if_pos (.inr h2)]
    · rw [if_neg (by simp; omega), if_neg (by omega)]
theorem f55_eq (neg : Bool) (a b : List Int) (ha : Lim a) (hb : Lim b) (la : a.length < 1000000) (lb : b.length < 1000000) : makeZ neg (val a) (val b) (f55 neg a b) := by
  unfold f55
  rw [f62_eq a (by omega), f62_eq b (by omega)]
  simp only [bind_ok]
  have na := trim_norm ha; have nb := trim_norm hb
  have ka := trim_le a; have kb := trim_le b
  rw [← trim_val a, ← trim_val b]
  generalize trimL a = x at *; generalize trimL b = y at *
  by_cases h2 : y = []
  · subst h2
    rw [if_pos (by simp)]
    exact ⟨_, rfl, by rw [val_nil, if_pos rfl]⟩
  · have yl : 0 < y.length := List.length_pos_iff.2 h2
    have hd : val y ≠ 0 := by have := nb.pos h2; omega
    rw [if_neg (by rw [beq_iff_eq]; omega)]
    by_cases h1 : x = []
    · subst h1
      rw [if_pos (by simp)]
      exact ⟨_, rfl, by rw [val_nil, if_neg hd, if_pos rfl]⟩
    · have xl : 0 < x.length := List.length_pos_iff.2 h1
      have hn : val x ≠ 0 := by have := na.pos h1; omega
      have hn0 := na.pos h1
      rw [if_neg (by rw [beq_iff_eq]; omega)]
      obtain ⟨g, g1, g2, g3, g4⟩ := f63_eq x y na.1 nb.1 (by omega) (by omega)
      rw [g1]
      simp only [bind_ok]
      rw [f64_eq g g2]
      simp only [bind_ok]
      have gp : 0 < val g := by rw [g3]; exact gcdZ_pos hn0
      by_cases c1 : val g = 1
      · rw [if_neg (by simp [c1]), lenIf]
        refine ⟨_, rfl, ?_⟩
        rw [if_neg hd, if_neg hn]
        exact ⟨x, y, na, nb, by rw [← g3, c1, Int.ediv_one], by rw [← g3, c1, Int.ediv_one], rfl⟩
      · rw [if_pos (by simp [c1])]
        obtain ⟨p, p', p1, p2, p3, p4, p5⟩ := f65_eq x g na.1 g2.1 (by omega) (by omega) gp
        obtain ⟨q, q', q1, q2, q3, q4, q5⟩ := f65_eq y g nb.1 g2.1 (by omega) (by omega) gp
        rw [p1, q1]
        simp only [bind_ok]
        rw [lenIf]
        refine ⟨_, rfl, ?_⟩
        rw [if_neg hd, if_neg hn]
        exact ⟨p, q, p2, q2, by rw [← g3, p4], by rw [← g3, q4], rfl⟩
theorem f47_eq (neg : Bool) (a b : List Int) (ha : Lim a) (hb : Lim b) (la : a.length < 1000000) (lb : b.length < 1000000) : makeZ neg (val a) (val b) (f47 neg a b) := by
  unfold f47
  rw [f56_eq a (by omega), f56_eq b (by omega)]
  simp only [bind_ok]
  have na := trim_norm ha; have nb := trim_norm hb
  have ka := trim_le a; have kb := trim_le b
  rw [← trim_val a, ← trim_val b]
  generalize trimL a = x at *; generalize trimL b = y at *
  by_cases h2 : y = []
  · subst h2
    rw [if_pos (by simp)]
    exact ⟨_, rfl, by rw [val_nil, if_pos rfl]⟩
  · have yl : 0 < y.length := List.length_pos_iff.2 h2
    have hd : val y ≠ 0 := by have := nb.pos h2; omega
    rw [if_neg (by rw [beq_iff_eq]; omega)]
    by_cases h1 : x = []
    · subst h1
      rw [if_pos (by simp)]
      exact ⟨_, rfl, by rw [val_nil, if_neg hd, if_pos rfl]⟩
    · have xl : 0 < x.length := List.length_pos_iff.2 h1
      have hn : val x ≠ 0 := by have := na.pos h1; omega
      have hn0 := na.pos h1
      rw [if_neg (by rw [beq_iff_eq]; omega)]
      obtain ⟨g, g1, g2, g3⟩ := f57_eq x y na.1 nb.1 (by omega) (by omega)
      rw [g1]
      simp only [bind_ok]
      have gp : 0 < val g := by rw [g3]; exact gcdZ_pos hn0
      have gl : g.length ≤ x.length := g2.len_le (by have := val_lt na.1; have := gcdZ_le (y := val y) hn0; omega)
      obtain ⟨p, p', p1, p2, p3, p4, p5⟩ := f58_eq x g na.1 g2.1 (by omega) (by omega) gp
      obtain ⟨q, q', q1, q2, q3, q4, q5⟩ := f58_eq y g nb.1 g2.1 (by omega) (by omega) gp
      rw [p1, q1]
      simp only [bind_ok]
      rw [lenIf]
      refine ⟨_, rfl, ?_⟩
      rw [if_neg hd, if_neg hn]
      exact ⟨p, q, p2, q2, by rw [← g3, p4], by rw [← g3, q4], rfl⟩
/-- The two Makes are one. -/
theorem make_eq (neg : Bool) (a b a' b' : List Int) (ha : Lim a) (hb : Lim b) (la : a.length < 1000000) (lb : b.length < 1000000) (ha' : Lim a') (hb' : Lim b') (la' : a'.length < 1000000) (lb' : b'.length < 1000000) (h1 : val a = val a') (h2 : val b = val b') : f55 neg a b = f47 neg a' b' :=
  makeZ_eq (f55_eq neg a b ha hb la lb) (by rw [h1, h2]; exact f47_eq neg a' b' ha' hb' la' lb')
theorem make_some (neg : Bool) (a b : List Int) (ha : Lim a) (hb : Lim b) (la : a.length < 1000000) (lb : b.length < 1000000) : ∃ x, f55 neg a b = some x := by
  obtain ⟨x, h, _⟩ := f55_eq neg a b ha hb la lb; exact ⟨x, h⟩
end Go.Bx.Scan

/- Numerals: the program reads what the reference reads. Plain Lean. (Own text.) -/
namespace Go.Bx.Scan
set_option linter.unusedVariables false
set_option linter.unusedSimpArgs false
set_option linter.unusedSectionVars false
open Go.Proofs
set_option linter.unusedVariables false
set_option linter.unusedSimpArgs false

def isDig (b : UInt8) : Bool := decide (48 ≤ b.toNat) && decide (b.toNat ≤ 57)
theorem isDig_iff (b : UInt8) : isDig b = true ↔ 48 ≤ b.toNat ∧ b.toNat ≤ 57 := by simp [isDig]
/-- What digits are worth behind a number. -/
def decA (n : Int) : Str → Int
  | [] => n
  | b :: l => decA (n * 10 + ((b.toNat : Int) - 48)) l
theorem byte_lt (b : UInt8) : (b.toNat : Int) < 256 := by have := b.toNat_lt; omega

/-! ### nats.Push -/
theorem f61_l0_eq (a : List Int) (d : Int) (ha : Lim a) (la : a.length < 1000000) (hd : 0 ≤ d ∧ d ≤ 9) : ∀ (k i : Nat) (l : List Int) (c : Int), i + k = a.length → l.length = a.length → Lim l → 0 ≤ c → c ≤ 9 → l.drop i = a.drop i → val (l.take i) + pw i * c = 10 * val (a.take i) + d →
    ∃ l' c', f61_l0 a l c i = some (l', c') ∧ Lim l' ∧ l'.length = a.length ∧ 0 ≤ c' ∧ c' ≤ 9 ∧ val l' + pw a.length * c' = 10 * val a + d
  | 0, i, l, c, hk, hl, hL, hc, hc2, hdr, he => by
    refine ⟨l, c, by rw [f61_l0, if_neg (by simp <;> omega)], hL, hl, hc, hc2, ?_⟩
    rw [List.take_of_length_le (by omega), List.take_of_length_le (by omega), show i = a.length by omega] at he; exact he
  | k + 1, i, l, c, hk, hl, hL, hc, hc2, hdr, he => by
    have k1 : i < l.length := by omega
    have k2 : i < a.length := by omega
    have kl := hL.get k1
    have hdd : l[i] = a[i] ∧ l.drop (i + 1) = a.drop (i + 1) := by
      rw [List.drop_eq_getElem_cons k1, List.drop_eq_getElem_cons k2] at hdr
      exact ⟨(List.cons.inj hdr).1, (List.cons.inj hdr).2⟩
    rw [f61_l0, if_pos (by simp <;> omega), rd_nat k1]
    simp only [bind_ok]
    rw [wu64 (x := l[i]) (by omega) (by omega), wu64 (x := l[i] * 10) (by omega) (by omega), wu64 (x := l[i] * 10 + c) (by omega) (by omega)]
    generalize hx : l[i] * 10 + c = x
    rw [IntKind.wrap_u32, setN _ rfl, shr32, w64 (by omega) (by omega), show ((i : Int) + 1) = ((i + 1 : Nat) : Int) by omega]
    have k1' : i < (l.set i (x % 4294967296)).length := by simpa using k1
    refine f61_l0_eq a d ha la hd k (i + 1) _ _ (by omega) (by simpa using hl) (hL.set (by omega)) (by omega) (by omega) (by rw [List.drop_set_of_lt (by omega)]; exact hdd.2) ?_
    rw [val_take_succ k1', List.getElem_set_self, List.take_set_of_le (by omega), val_take_succ k2, ← hdd.1, pw_s]
    have e : x = 4294967296 * (x / 4294967296) + x % 4294967296 := by omega
    have e4 : l[i] * 10 = x - c := by omega
    generalize x / 4294967296 = xh at *
    generalize x % 4294967296 = xl at *
    have e5 : 10 * (val (a.take i) + pw i * l[i]) = 10 * val (a.take i) + pw i * (l[i] * 10) := by grind
    rw [e5, e4, e]; grind
theorem f61_eq (a : List Int) (d : Int) (ha : Lim a) (la : a.length < 1000000) (hd : 0 ≤ d ∧ d ≤ 9) (h0 : a ≠ [] → 0 < val a) : ∃ r, f61 a d = some r ∧ Lim r ∧ val r = 10 * val a + d ∧ r.length ≤ a.length + 1 ∧ a.length ≤ r.length ∧ (d ≠ 0 → r ≠ []) := by
  unfold f61
  rw [wu64 (x := d) (by omega) (by omega)]
  obtain ⟨l, c, h1, h2, h3, h4, h5, h6⟩ := f61_l0_eq a d ha la hd a.length 0 a d (by omega) rfl ha (by omega) (by omega) rfl (by simp [val, pw_0])
  rw [show ((0 : Nat) : Int) = 0 from rfl] at h1
  rw [h1]
  simp only [bind_ok]
  by_cases hc : c > 0
  · rw [if_pos (by simpa using hc), wu32 (by omega) (by omega), apN (by simp; omega)]
    simp only [bind_ok]
    exact ⟨l ++ [c], rfl, h2.append (Lim.cons (by omega) Lim.nil), by rw [val_append, val_one, h3, h6], by simp; omega, by simp; omega, fun _ => by simp⟩
  · rw [if_neg (by simpa using hc)]
    have hc0 : c = 0 := by omega
    rw [hc0] at h6
    refine ⟨l, rfl, h2, by omega, by omega, by omega, fun hdn hl => ?_⟩
    subst hl
    have : a = [] := List.length_eq_zero_iff.1 (by simpa using h3.symm)
    subst this
    simp [val] at h6; exact hdn h6.symm

/-! ### ratio.natDigits -/
theorem f53_dig (b : UInt8) : f53 (b.toNat : Int) = some (clsOf b.toNat) := by have := byte_lt b; unfold f53; rw [if_pos ⟨by omega, by omega⟩]
theorem cls_dig (b : UInt8) : (clsOf (b.toNat : Int) == 2) = isDig b := by
  have e : isDig b = true ↔ clsOf (b.toNat : Int) = 2 := by
    rw [isDig_iff]; unfold clsOf
    split
    · constructor <;> intro h <;> omega
    · split
      · constructor <;> intro h <;> omega
      · split
        · constructor <;> intro h <;> omega
        · constructor <;> intro h <;> omega
  cases h : isDig b with
  | true => rw [beq_iff_eq]; exact e.1 h
  | false => rw [beq_eq_false_iff_ne]; intro h2; rw [e.2 h2] at h; cases h
def Good (out : List Int) (n : Int) : Prop := Lim out ∧ val out = n ∧ (out = [] ↔ n = 0)
theorem f54_l0_eq (s : Str) (ls : s.length < 10000) : ∀ (k i : Nat) (out : List Int) (n : Int), i + k = s.length → out.length ≤ i → Good out n → 0 ≤ n →
    ∃ out', f54_l0 s out i = some (out', ((i + ((s.drop i).takeWhile isDig).length : Nat) : Int)) ∧ Good out' (decA n ((s.drop i).takeWhile isDig)) ∧ out'.length ≤ s.length
  | 0, i, out, n, hk, hl, hg, hn => by
    refine ⟨out, ?_, ?_, by omega⟩
    · rw [f54_l0, if_neg (by simp <;> omega), List.drop_of_length_le (by omega)]; rfl
    · rw [List.drop_of_length_le (by omega)]; exact hg
  | k + 1, i, out, n, hk, hl, hg, hn => by
    have k1 : i < s.length := by omega
    have hb := byte_lt s[i]
    rw [f54_l0, if_pos (by simp <;> omega), bt_nat k1]
    simp only [bind_ok]
    rw [f53_dig]
    simp only [bind_ok]
    rw [cls_dig, List.drop_eq_getElem_cons k1, List.takeWhile_cons]
    by_cases hd : isDig s[i] = true
    · have hdr := (isDig_iff _).1 hd
      rw [if_pos hd, if_pos hd]
      have hw : IntKind.u8.wrap ((s[i].toNat : Int) - 48) = (s[i].toNat : Int) - 48 := IntWalk.u8_in _ ⟨by omega, by omega⟩
      rw [hw, wu32 (by omega) (by omega)]
      have fin : ∀ out2 : List Int, Good out2 (n * 10 + ((s[i].toNat : Int) - 48)) → out2.length ≤ i + 1 → ∃ out', f54_l0 s out2 (IntKind.i64.wrap ((i : Int) + 1)) = some (out', ((i + (s[i] :: (s.drop (i + 1)).takeWhile isDig).length : Nat) : Int)) ∧ Good out' (decA n (s[i] :: (s.drop (i + 1)).takeWhile isDig)) ∧ out'.length ≤ s.length := fun out2 g2 l2 => by
        rw [w64 (by omega) (by omega), show ((i : Int) + 1) = ((i + 1 : Nat) : Int) by omega]
        obtain ⟨o, h1, h2, h3⟩ := f54_l0_eq s ls k (i + 1) out2 _ (by omega) l2 g2 (by omega)
        exact ⟨o, by rw [h1]; congr 2; rw [List.length_cons]; omega, h2, h3⟩
      have push : (0 < (s[i].toNat : Int) - 48 ∨ out ≠ []) → ∃ r, f61 out ((s[i].toNat : Int) - 48) = some r ∧ Good r (n * 10 + ((s[i].toNat : Int) - 48)) ∧ r.length ≤ i + 1 := fun hp => by
        obtain ⟨r, r1, r2, r3, r4, r5, r6⟩ := f61_eq out ((s[i].toNat : Int) - 48) hg.1 (by omega) ⟨by omega, by omega⟩ (fun ho => by
          have := hg.2.2; have h7 := hg.2.1
          have : n ≠ 0 := fun h => ho (hg.2.2.2 h)
          omega)
        refine ⟨r, r1, ⟨r2, by rw [r3, hg.2.1]; omega, ?_⟩, by omega⟩
        have hrne : r ≠ [] := by
          rcases hp with hp | hp
          · exact r6 (by omega)
          · intro h; subst h; exact hp (List.length_eq_zero_iff.1 (by simpa using r5))
        have hnp : n ≠ 0 ∨ 0 < (s[i].toNat : Int) - 48 := by
          rcases hp with hp | hp
          · exact .inr hp
          · exact .inl fun h => hp (hg.2.2.2 h)
        constructor
        · intro h; exact absurd h hrne
        · intro h; omega
      by_cases h0 : (s[i].toNat : Int) - 48 > 0
      · rw [if_pos (by simp; omega)]
        obtain ⟨r, r1, r2, r3⟩ := push (.inl h0)
        rw [r1]
        simp only [bind_ok]
        exact fin r r2 r3
      · rw [if_neg (by simp; omega)]
        by_cases ho : out = []
        · subst ho
          rw [if_neg (by simp)]
          simp only [bind_ok]
          have hn0 : n = 0 := hg.2.2.1 rfl
          refine fin [] ⟨Lim.nil, ?_, ?_⟩ (by simp)
          · rw [val_nil]; omega
          · constructor
            · intro _; omega
            · intro _; rfl
        · have : 0 < out.length := List.length_pos_iff.2 ho
          rw [if_pos (by simp; omega)]
          obtain ⟨r, r1, r2, r3⟩ := push (.inr ho)
          rw [r1]
          simp only [bind_ok]
          exact fin r r2 r3
    · rw [if_neg hd, if_neg hd]
      exact ⟨out, rfl, hg, by omega⟩
theorem f54_eq (s : Str) (ls : s.length < 10000) (i : Nat) (hi : i ≤ s.length) : ∃ out, f54 s i = some (out, ((i + ((s.drop i).takeWhile isDig).length : Nat) : Int), decide (0 < ((s.drop i).takeWhile isDig).length)) ∧ Good out (decA 0 ((s.drop i).takeWhile isDig)) ∧ out.length ≤ s.length := by
  unfold f54
  obtain ⟨o, h1, h2, h3⟩ := f54_l0_eq s ls (s.length - i) i [] 0 (by omega) (by simp) ⟨Lim.nil, rfl, by simp⟩ (by omega)
  rw [h1]
  simp only [bind_ok]
  refine ⟨o, ?_, h2, h3⟩
  congr 3
  apply decide_eq_decide.2; omega

/-! ### the reference's -/
theorem f46_l0_eq (s : Str) (ls : s.length < 10000) : ∀ (k i : Nat), i + k = s.length → f46_l0 s i = some (if (s.drop i).all isDig then .nxt () else .ret false)
  | 0, i, hk => by rw [f46_l0, if_neg (by simp <;> omega), List.drop_of_length_le (by omega)]; rfl
  | k + 1, i, hk => by
    have k1 : i < s.length := by omega
    rw [f46_l0, if_pos (by simp <;> omega), bt_nat k1]
    simp only [bind_ok]
    rw [List.drop_eq_getElem_cons k1, List.all_cons]
    have hd := isDig_iff s[i]
    by_cases h1 : (s[i].toNat : Int) < 48
    · have : isDig s[i] = false := by cases h : isDig s[i] with
        | false => rfl
        | true => have := hd.1 h; omega
      rw [if_pos (by simpa using h1), this]; rfl
    · rw [if_neg (by simpa using h1)]
      by_cases h2 : (s[i].toNat : Int) > 57
      · have : isDig s[i] = false := by cases h : isDig s[i] with
          | false => rfl
          | true => have := hd.1 h; omega
        rw [if_pos (by simpa using h2), this]; rfl
      · rw [if_neg (by simpa using h2), hd.2 (by omega), Bool.true_and, w64 (by omega) (by omega), show ((i : Int) + 1) = ((i + 1 : Nat) : Int) by omega]
        exact f46_l0_eq s ls k (i + 1) (by omega)
theorem f46_eq (s : Str) (ls : s.length < 10000) : f46 s = some (s.all isDig && decide (0 < s.length)) := by
  unfold f46
  have := f46_l0_eq s ls s.length 0 (by omega)
  rw [show ((0 : Nat) : Int) = 0 from rfl, List.drop_zero] at this
  rw [this]
  simp only [bind_ok]
  cases s.all isDig with
  | true => simp
  | false => rfl
theorem ten_pw : ∀ k : Nat, (10 : Int) ^ k ≤ pw k
  | 0 => by decide
  | k + 1 => by have := ten_pw k; rw [pw_s, Int.pow_succ]; have : (0 : Int) < 10 ^ k := Int.pow_pos (by decide); omega
theorem decA_bound : ∀ (l : Str) (n : Int) (k : Nat), 0 ≤ n → n < 10 ^ k → l.all isDig = true → 0 ≤ decA n l ∧ decA n l < 10 ^ (k + l.length)
  | [], n, k, h, h1, _ => by simpa [decA] using ⟨h, h1⟩
  | b :: l, n, k, h, h1, hd => by
    simp only [List.all_cons, Bool.and_eq_true] at hd
    have hb := (isDig_iff b).1 hd.1
    have := decA_bound l (n * 10 + ((b.toNat : Int) - 48)) (k + 1) (by omega) (by rw [Int.pow_succ]; omega) hd.2
    rw [List.length_cons, show k + (l.length + 1) = k + 1 + l.length by omega]; exact this
theorem f48_l0_eq (s : Str) (ls : s.length < 10000) (hs : s.all isDig = true) : ∀ (k i : Nat) (out : List Int) (n : Int), i + k = s.length → Norm out → val out = n → 0 ≤ n → n < 10 ^ i →
    ∃ out', f48_l0 s out i = some out' ∧ Norm out' ∧ val out' = decA n (s.drop i) ∧ out'.length ≤ s.length
  | 0, i, out, n, hk, ho, hv, hn, hb => by
    refine ⟨out, by rw [f48_l0, if_neg (by simp <;> omega)], ho, by rw [List.drop_of_length_le (by omega)]; exact hv, ?_⟩
    exact ho.len_le (by have := ten_pw i; rw [hv, show s.length = i by omega]; omega)
  | k + 1, i, out, n, hk, ho, hv, hn, hb => by
    have k1 : i < s.length := by omega
    have hol : out.length ≤ i := ho.len_le (by have := ten_pw i; omega)
    have hd := (isDig_iff s[i]).1 (List.all_eq_true.1 hs _ (List.getElem_mem k1))
    rw [f48_l0, if_pos (by simp <;> omega)]
    obtain ⟨r3, a1, a2, a3, a4⟩ := f60_eq out [10] ho.1 (Lim.cons (by omega) Lim.nil) (by omega) (by simp)
    rw [a1, bt_nat k1]
    simp only [bind_ok]
    have hw : IntKind.u8.wrap ((s[i].toNat : Int) - 48) = (s[i].toNat : Int) - 48 := IntWalk.u8_in _ ⟨by omega, by omega⟩
    rw [hw, wu32 (by omega) (by omega)]
    have hl3 : r3.length ≤ 1000000 := by simp at a4; omega
    obtain ⟨r5, b1, b2, b3, b4⟩ := f59_eq r3 [(s[i].toNat : Int) - 48] a2.1 (Lim.cons (by omega) Lim.nil) (by omega) (by simp)
    rw [b1]
    simp only [bind_ok]
    rw [w64 (by omega) (by omega), show ((i : Int) + 1) = ((i + 1 : Nat) : Int) by omega, List.drop_eq_getElem_cons k1]
    exact f48_l0_eq s ls hs k (i + 1) r5 _ (by omega) b2 (by rw [b3, a3, hv, val_one, val_one]) (by omega) (by rw [Int.pow_succ]; omega)
theorem f48_eq (s : Str) (ls : s.length < 10000) (hs : s.all isDig = true) : ∃ out, f48 s = some out ∧ Norm out ∧ val out = decA 0 s ∧ out.length ≤ s.length := by
  unfold f48
  obtain ⟨o, h1, h2, h3, h4⟩ := f48_l0_eq s ls hs s.length 0 [] 0 (by omega) Norm.nil rfl (by omega) (by decide)
  rw [show ((0 : Nat) : Int) = 0 from rfl] at h1
  rw [h1]
  exact ⟨o, rfl, h2, h3, h4⟩

/-- Digits that are worth nothing are noughts. -/
theorem decA_zero : ∀ (l : Str) (n : Int), 0 ≤ n → l.all isDig = true → (decA n l = 0 ↔ n = 0 ∧ l.all (· == 48) = true)
  | [], n, h, _ => by simp [decA]
  | b :: l, n, h, hd => by
    simp only [List.all_cons, Bool.and_eq_true] at hd
    have hb := (isDig_iff b).1 hd.1
    have := decA_zero l (n * 10 + ((b.toNat : Int) - 48)) (by omega) hd.2
    rw [show decA n (b :: l) = decA (n * 10 + ((b.toNat : Int) - 48)) l from rfl, this]
    have e : (b == 48) = true ↔ b.toNat = 48 := by rw [beq_iff_eq]; constructor; (intro h; subst h; rfl); (intro h; exact UInt8.toNat_inj.1 h)
    simp only [List.all_cons, Bool.and_eq_true]
    constructor
    · rintro ⟨h1, h2⟩; exact ⟨by omega, e.2 (by omega), h2⟩
    · rintro ⟨h1, h2, h3⟩; have := e.1 h2; exact ⟨by omega, h3⟩
end Go.Bx.Scan

/- Numerals and runs: the program tells what the reference tells. Plain Lean. (Own text.) -/
namespace Go.Bx.Scan
set_option linter.unusedVariables false
set_option linter.unusedSimpArgs false
set_option linter.unusedSectionVars false
open Go.Proofs
set_option linter.unusedVariables false
set_option linter.unusedSimpArgs false

theorem bEq (b c : UInt8) : ((b.toNat : Int) == (c.toNat : Int)) = (b == c) := by
  cases h : b == c with
  | true => rw [beq_iff_eq] at h; subst h; simp
  | false => rw [beq_eq_false_iff_ne] at h ⊢; intro e; exact h (UInt8.toNat_inj.1 (by omega))
theorem b47 (b : UInt8) : ((b.toNat : Int) == 47) = (b == 47) := bEq b 47
theorem b43 (b : UInt8) : ((b.toNat : Int) == 43) = (b == 43) := bEq b 43
theorem b45 (b : UInt8) : ((b.toNat : Int) == 45) = (b == 45) := bEq b 45
theorem b48 (b : UInt8) : ((b.toNat : Int) != 48) = (b != 48) := by show (!((b.toNat : Int) == 48)) = !(b == 48); rw [show ((b.toNat : Int) == 48) = (b == 48) from bEq b 48]

/-- A sign ahead. -/
def strip (s : Str) : Str × Bool := match s with
  | [] => ([], false)
  | b :: l => if b = 43 then (l, false) else if b = 45 then (l, true) else (b :: l, false)
def isNs (b : UInt8) : Bool := b != 47
def numOf (T : Str) : Str := T.takeWhile isNs
def denOf (T : Str) : Str := if (numOf T).length < T.length then T.drop ((numOf T).length + 1) else [49]
def cutOK (T : Str) : Bool := (numOf T).all isDig && decide (0 < (numOf T).length) && (denOf T).all isDig && decide (0 < (denOf T).length) && !((denOf T).all (· == 48))

theorem numOf_take (T : Str) : T.take (numOf T).length = numOf T := by
  unfold numOf; exact (List.prefix_iff_eq_take.1 (List.takeWhile_prefix _)).symm
theorem numOf_le (T : Str) : (numOf T).length ≤ T.length := by
  unfold numOf; exact (List.takeWhile_prefix _).length_le
theorem f34_l0_eq (T : Str) (g : Bool) (ls : T.length < 10000) : ∀ (k i : Nat), i + k = T.length → f34_l0 (T, g) i = some (if i + ((T.drop i).takeWhile isNs).length < T.length then (T.take (i + ((T.drop i).takeWhile isNs).length), T.drop (i + ((T.drop i).takeWhile isNs).length + 1)) else (T, [49]))
  | 0, i, hk => by
    rw [f34_l0, if_neg (by simp <;> omega), List.drop_of_length_le (by omega), if_neg (by simp; omega)]
  | k + 1, i, hk => by
    have k1 : i < T.length := by omega
    rw [f34_l0, if_pos (by simp <;> omega), bt_nat k1]
    simp only [bind_ok]
    rw [b47]
    by_cases hb : T[i] = 47
    · have htw : (T.drop i).takeWhile isNs = [] := by rw [List.drop_eq_getElem_cons k1, List.takeWhile_cons, if_neg (by simp [isNs, hb])]
      rw [if_pos (by simpa using hb), htw, List.length_nil, Nat.add_zero, if_pos k1]
      rw [cutN (i := 0) (m := 0) (n := i) rfl rfl (by omega) (by omega)]
      simp only [bind_ok]
      rw [w64 (by omega) (by omega), cutN (m := i + 1) (n := T.length) (by omega) rfl (by omega) (Nat.le_refl _)]
      simp only [bind_ok, List.drop_zero, List.take_length]
    · have htw : (T.drop i).takeWhile isNs = T[i] :: (T.drop (i + 1)).takeWhile isNs := by rw [List.drop_eq_getElem_cons k1, List.takeWhile_cons, if_pos (by simp [isNs, hb])]
      rw [if_neg (by simpa using hb), w64 (by omega) (by omega), show ((i : Int) + 1) = ((i + 1 : Nat) : Int) by omega]
      rw [f34_l0_eq T g ls k (i + 1) (by omega), htw]
      rw [List.length_cons, show i + (((T.drop (i + 1)).takeWhile isNs).length + 1) = i + 1 + ((T.drop (i + 1)).takeWhile isNs).length by omega]
theorem f34_l1_eq (g : Bool) (T n d : Str) (ls : d.length < 10000) : ∀ (k i : Nat), i + k = d.length → f34_l1 (T, g) (n, d) i = some (if (d.drop i).all (· == 48) then .nxt () else .ret (g, n, d, true))
  | 0, i, hk => by rw [f34_l1, if_neg (by simp <;> omega), List.drop_of_length_le (by omega)]; rfl
  | k + 1, i, hk => by
    have k1 : i < d.length := by omega
    rw [f34_l1, if_pos (by simp <;> omega), bt_nat k1]
    simp only [bind_ok]
    rw [b48, List.drop_eq_getElem_cons k1, List.all_cons]
    by_cases hb : d[i] = 48
    · rw [if_neg (by simp [hb]), w64 (by omega) (by omega), show ((i : Int) + 1) = ((i + 1 : Nat) : Int) by omega, f34_l1_eq g T n d ls k (i + 1) (by omega)]
      simp [hb]
    · rw [if_pos (by simpa using hb)]
      have : (d[i] == 48) = false := by simpa using hb
      rw [this]; rfl
theorem f34_eq (s : Str) (ls : s.length < 5000) : f34 s = some (if cutOK (strip s).1 then ((strip s).2, numOf (strip s).1, denOf (strip s).1, true) else (false, [], [], false)) := by
  have hstrip : (if decide ((s.length : Int) > 0) = true then (bt s 0 >>= fun b2 => if (b2 == 43) = true then (bt s 0 >>= fun b3 => cutL s 1 (s.length : Int) >>= fun p4 => some (p4, b3 == 45)) else if (b2 == 45) = true then (bt s 0 >>= fun b4 => cutL s 1 (s.length : Int) >>= fun p5 => some (p5, b4 == 45)) else some (s, false)) else some (s, false)) = some (strip s) := by
    cases s with
    | nil => rfl
    | cons b l =>
      have h0 : bt (b :: l) 0 = some (b.toNat : Int) := bt_nat (s := b :: l) (i := 0) (by simp)
      rw [if_pos (by simp <;> omega), h0]
      simp only [bind_ok]
      rw [b43, b45]
      unfold strip
      have hc : cutL (b :: l) 1 ((b :: l).length : Int) = some l := by
        rw [cutN (i := 1) (m := 1) (n := (b :: l).length) rfl rfl (by simp) (Nat.le_refl _), List.take_length]; rfl
      by_cases h1 : b = 43
      · subst h1; rw [if_pos (by decide), hc]; rfl
      · rw [if_neg (by simpa using h1)]
        by_cases h2 : b = 45
        · subst h2; rw [if_pos (by decide), hc]; rfl
        · rw [if_neg (by simpa using h2)]
          simp [h1, h2]
  have hl : (strip s).1.length ≤ s.length := by
    unfold strip
    cases s with
    | nil => simp
    | cons b l => simp only; split <;> (try split) <;> simp
  unfold f34
  rw [hstrip]
  simp only [bind_ok]
  generalize strip s = o at *
  obtain ⟨T, g⟩ := o
  simp only at hl ⊢
  have hfind := f34_l0_eq T g (by omega) T.length 0 (by omega)
  rw [show ((0 : Nat) : Int) = 0 from rfl, List.drop_zero, Nat.zero_add] at hfind
  have hnd : (if (T.takeWhile isNs).length < T.length then (T.take (T.takeWhile isNs).length, T.drop ((T.takeWhile isNs).length + 1)) else (T, [49])) = (numOf T, denOf T) := by
    unfold denOf
    have e := numOf_take T; have e2 := numOf_le T
    unfold numOf at *
    split
    · rename_i h; rw [e]
    · rename_i h
      rw [List.take_of_length_le (by omega)] at e
      rw [← e]
  rw [hfind, hnd]
  simp only [bind_ok]
  have hnl := numOf_le T
  have hdl : (denOf T).length ≤ T.length + 1 := by unfold denOf; split <;> simp <;> omega
  rw [f46_eq _ (by omega)]
  simp only [bind_ok]
  unfold cutOK
  cases h1 : (numOf T).all isDig && decide (0 < (numOf T).length) with
  | false => rfl
  | true =>
    simp only [Bool.not_true, Bool.false_eq_true, if_false]
    rw [f46_eq _ (by omega)]
    simp only [bind_ok, Bool.true_and]
    cases h2 : (denOf T).all isDig && decide (0 < (denOf T).length) with
    | false => rfl
    | true =>
      simp only [Bool.not_true, Bool.false_eq_true, if_false, Bool.true_and]
      have := f34_l1_eq g T (numOf T) (denOf T) (by omega) (denOf T).length 0 (by omega)
      rw [show ((0 : Nat) : Int) = 0 from rfl, List.drop_zero] at this
      rw [this]
      simp only [bind_ok]
      cases (denOf T).all (· == 48) <;> rfl

/-! ### Read -/
theorem f35_eq (s : Str) (ls : s.length ≤ 4096) : ∃ x, f35 s = some x ∧ (cutOK (strip s).1 = false → x = (⟨false, [], []⟩, 21)) ∧
    (cutOK (strip s).1 = true → ∀ a b : List Int, Lim a → Lim b → a.length < 1000000 → b.length < 1000000 → val a = decA 0 (numOf (strip s).1) → val b = decA 0 (denOf (strip s).1) → f55 (strip s).2 a b = some x) := by
  have hl : (strip s).1.length ≤ s.length := by
    unfold strip
    cases s with
    | nil => simp
    | cons b l => simp only; split <;> (try split) <;> simp
  unfold f35
  rw [if_neg (by simp; omega), f34_eq s (by omega)]
  simp only [bind_ok]
  generalize strip s = o at *
  obtain ⟨T, g⟩ := o
  simp only at hl ⊢
  cases hc : cutOK T with
  | false => exact ⟨_, rfl, fun _ => rfl, nofun⟩
  | true =>
    simp only [if_true, Bool.not_true, Bool.false_eq_true, if_false]
    have hnl := numOf_le T
    have hdl : (denOf T).length ≤ T.length + 1 := by unfold denOf; split <;> simp <;> omega
    unfold cutOK at hc
    simp only [Bool.and_eq_true, decide_eq_true_eq] at hc
    obtain ⟨n, n1, n2, n3, n4⟩ := f48_eq (numOf T) (by omega) hc.1.1.1.1
    obtain ⟨d, d1, d2, d3, d4⟩ := f48_eq (denOf T) (by omega) hc.1.1.2
    rw [n1, d1]
    simp only [bind_ok]
    obtain ⟨x, hx⟩ := make_some g n d n2.1 d2.1 (by omega) (by omega)
    rw [make_eq g n d n d n2.1 d2.1 (by omega) (by omega) n2.1 d2.1 (by omega) (by omega) rfl rfl] at hx
    rw [hx]
    refine ⟨x, by simp only [bind_ok], nofun, fun _ a b ha hb la lb va vb => ?_⟩
    rw [← hx]
    exact make_eq g a b n d ha hb la lb n2.1 d2.1 (by omega) (by omega) (by rw [va, n3]) (by rw [vb, d3])

/-- Digits ahead of what is none. -/
theorem run_num {T : Str} (h : (numOf T).all isDig = true) : T.takeWhile isDig = numOf T := by
  have key : ∀ T : Str, (T.takeWhile isNs).all isDig = true → T.takeWhile isDig = T.takeWhile isNs := by
    intro T
    induction T with
    | nil => intro _; rfl
    | cons b l ih =>
      intro h
      rw [List.takeWhile_cons] at h ⊢
      rw [List.takeWhile_cons]
      by_cases hb : b = 47
      · subst hb; rfl
      · have e : isNs b = true := by simp [isNs, hb]
        rw [if_pos e] at h ⊢
        simp only [List.all_cons, Bool.and_eq_true] at h
        rw [if_pos h.1, ih h.2]
  exact key T h
theorem run_short {T : Str} (h : (numOf T).all isDig = false) : ∃ hl : (T.takeWhile isDig).length < T.length, isDig (T[(T.takeWhile isDig).length]) = false ∧ T[(T.takeWhile isDig).length] ≠ 47 := by
  have key : ∀ T : Str, (T.takeWhile isNs).all isDig = false → ∃ c, T[(T.takeWhile isDig).length]? = some c ∧ isDig c = false ∧ c ≠ 47 := by
    intro T
    induction T with
    | nil => intro h; cases h
    | cons b l ih =>
      intro h
      rw [List.takeWhile_cons] at h
      by_cases hb : b = 47
      · subst hb; cases h
      · have e : isNs b = true := by simp [isNs, hb]
        rw [if_pos e, List.all_cons] at h
        rw [List.takeWhile_cons]
        cases hd : isDig b with
        | false => exact ⟨b, rfl, hd, hb⟩
        | true =>
          rw [hd, Bool.true_and] at h
          obtain ⟨c, h1, h2⟩ := ih h
          exact ⟨c, by simpa using h1, h2⟩
  obtain ⟨c, h1, h2, h3⟩ := key T h
  have hl := (List.getElem?_eq_some_iff.1 h1)
  refine ⟨hl.1, ?_⟩
  rw [hl.2]; exact ⟨h2, h3⟩
theorem cls3 (b : UInt8) : (clsOf (b.toNat : Int) != 3) = (b != 47) := by
  have e : clsOf (b.toNat : Int) = 3 ↔ b = 47 := by
    have : b = 47 ↔ (b.toNat : Int) = 47 := ⟨fun h => by subst h; rfl, fun h => UInt8.toNat_inj.1 (by have : (47 : UInt8).toNat = 47 := rfl; omega)⟩
    rw [this]
    unfold clsOf
    split
    · constructor <;> intro h <;> omega
    · split
      · rename_i h; constructor <;> intro _ <;> omega
      · split <;> (constructor <;> intro h <;> omega)
  cases h : b != 47 with
  | true => have h' : b ≠ 47 := by simpa using h
            simpa using fun h2 => h' (e.1 h2)
  | false => have h' : b = 47 := by simpa using h
             simpa using e.2 h'
theorem cls1 (b : UInt8) : (clsOf (b.toNat : Int) == 1) = (b == 43 || b == 45) := by
  have e43 : b = 43 ↔ (b.toNat : Int) = 43 := ⟨fun h => by subst h; rfl, fun h => UInt8.toNat_inj.1 (by have : (43 : UInt8).toNat = 43 := rfl; omega)⟩
  have e45 : b = 45 ↔ (b.toNat : Int) = 45 := ⟨fun h => by subst h; rfl, fun h => UInt8.toNat_inj.1 (by have : (45 : UInt8).toNat = 45 := rfl; omega)⟩
  have e : clsOf (b.toNat : Int) = 1 ↔ (b = 43 ∨ b = 45) := by
    rw [e43, e45]
    unfold clsOf
    split
    · rename_i h; exact ⟨fun _ => h, fun _ => rfl⟩
    · rename_i h
      split
      · exact ⟨fun h2 => by omega, fun h2 => absurd h2 h⟩
      · split <;> exact ⟨fun h2 => by omega, fun h2 => absurd h2 h⟩
  cases h : (b == 43 || b == 45) with
  | true => have h' : b = 43 ∨ b = 45 := by simpa using h
            simpa using e.2 h'
  | false => have h' : ¬ (b = 43 ∨ b = 45) := by simpa using h
             rw [beq_eq_false_iff_ne]; exact fun h2 => h' (e.1 h2)
end Go.Bx.Scan

/- Reading a numeral, telling a run: program and reference. Plain Lean. (Own text.) -/
namespace Go.Bx.Scan
set_option linter.unusedVariables false
set_option linter.unusedSimpArgs false
set_option linter.unusedSectionVars false
open Go.Proofs
set_option linter.unusedVariables false
set_option linter.unusedSimpArgs false

theorem tw_all {p : UInt8 → Bool} : ∀ {l : Str}, l.all p = true → l.takeWhile p = l
  | [], _ => rfl
  | b :: l, h => by
    simp only [List.all_cons, Bool.and_eq_true] at h
    rw [List.takeWhile_cons, if_pos h.1, tw_all h.2]
theorem all_tw {p : UInt8 → Bool} : ∀ {l : Str}, l.takeWhile p = l → l.all p = true
  | [], _ => rfl
  | b :: l, h => by
    rw [List.takeWhile_cons] at h
    split at h
    · rename_i hb; rw [List.all_cons, hb, all_tw (List.cons.inj h).2]; rfl
    · cases h
theorem tw_ok (p : UInt8 → Bool) : ∀ l : Str, (l.takeWhile p).all p = true
  | [] => rfl
  | b :: l => by
    rw [List.takeWhile_cons]
    split
    · rename_i hb; rw [List.all_cons, hb, tw_ok p l]; rfl
    · rfl
theorem strip_le (s : Str) : (strip s).1.length ≤ s.length := by
  unfold strip
  cases s with
  | nil => simp
  | cons b l => simp only; split <;> (try split) <;> simp
/-- How far the sign goes. -/
theorem strip_at (s : Str) : ∃ k : Nat, k ≤ 1 ∧ (strip s).1 = s.drop k ∧ k ≤ s.length ∧ (if (s != []) = true then (bt s 0 >>= fun b3 => f53 b3 >>= fun r4 => if (r4 == 1) = true then (bt s 0 >>= fun b6 => some (b6 == 45, (1 : Int))) else some (false, 0)) else some (false, 0)) = some ((strip s).2, (k : Int)) := by
  cases s with
  | nil => exact ⟨0, by omega, rfl, by simp, rfl⟩
  | cons b l =>
    have h0 : bt (b :: l) 0 = some (b.toNat : Int) := bt_nat (s := b :: l) (i := 0) (by simp)
    rw [if_pos (by simp), h0]
    simp only [bind_ok]
    rw [f53_dig]
    simp only [bind_ok]
    rw [cls1, b45]
    unfold strip
    by_cases h1 : b = 43
    · subst h1; exact ⟨1, by omega, rfl, by simp, rfl⟩
    · by_cases h2 : b = 45
      · subst h2; exact ⟨1, by omega, rfl, by simp, rfl⟩
      · refine ⟨0, by omega, ?_, by simp, ?_⟩
        · simp [h1, h2]
        · rw [if_neg (by simp [h1, h2])]; simp [h1, h2]
theorem limOne : Lim [1] := Lim.cons (by omega) Lim.nil
theorem ratio_eta (x : Ratio × Int) : ((⟨x.1.Neg, x.1.Num, x.1.Den⟩ : Ratio), x.2) = x := rfl

/-- The program's Read is the reference's. -/
theorem f45_eq (s : Str) (ls : s.length ≤ 4096) : ∃ x, f45 s = some x ∧ f35 s = some x ∧ (cutOK (strip s).1 = false → x = (⟨false, [], []⟩, 21)) ∧ (cutOK (strip s).1 = true → x.2 = 0 ∨ x.2 = 4) ∧ x.1.Num.length ≤ 16 ∧ x.1.Den.length ≤ 16 := by
  obtain ⟨x, x1, x2, x3⟩ := f35_eq s ls
  have hlast : (cutOK (strip s).1 = true → (x.2 = 0 ∨ x.2 = 4) ∧ x.1.Num.length ≤ 16 ∧ x.1.Den.length ≤ 16) → (cutOK (strip s).1 = true → x.2 = 0 ∨ x.2 = 4) ∧ x.1.Num.length ≤ 16 ∧ x.1.Den.length ≤ 16 := fun h => by
    refine ⟨fun hc => (h hc).1, ?_⟩
    cases hc : cutOK (strip s).1 with
    | true => exact (h hc).2
    | false => rw [x2 hc]; exact ⟨by simp, by simp⟩
  refine ⟨x, ?_, x1, x2, hlast fun hc => ?_⟩
  · obtain ⟨k, k1, k2, k3, k4⟩ := strip_at s
    have hTl := strip_le s
    unfold f45
    rw [if_neg (by simp; omega), k4]
    simp only [bind_ok]
    obtain ⟨out, a1, a2, a3⟩ := f54_eq s (by omega) k k3
    rw [a1, ← k2]
    rw [← k2] at a2
    simp only [bind_ok]
    generalize hT : (strip s).1 = T at *
    generalize hg : (strip s).2 = g at *
    have hslen : s.length = k + T.length := by rw [k2]; simp; omega
    cases hnum : (numOf T).all isDig with
    | false =>
      -- a byte that's neither a digit nor a stroke stands in the way
      obtain ⟨hl, hnd, hn47⟩ := run_short hnum
      have hcut : cutOK T = false := by unfold cutOK; rw [hnum]; rfl
      rw [x2 hcut]
      by_cases hr : 0 < (T.takeWhile isDig).length
      · rw [if_neg (by rw [decide_eq_true hr]; decide), if_pos (by rw [decide_eq_true_eq]; omega)]
        have hb : bt s ((k + (T.takeWhile isDig).length : Nat) : Int) = some ((T[(T.takeWhile isDig).length].toNat : Int)) := by
          rw [bt_nat (by omega)]; congr 2; simp only [k2, List.getElem_drop]
        rw [hb]
        simp only [bind_ok]
        rw [f53_dig]
        simp only [bind_ok]
        rw [cls3, if_pos (by simpa using hn47)]
      · rw [if_pos (by rw [decide_eq_false hr]; decide)]
    | true =>
      have hrun := run_num hnum
      rw [hrun] at a2 ⊢
      have hnle := numOf_le T
      by_cases hn0 : 0 < (numOf T).length
      · rw [if_neg (by rw [decide_eq_true hn0]; decide)]
        by_cases hst : (numOf T).length < T.length
        · rw [if_pos (by rw [decide_eq_true_eq]; omega)]
          -- the byte behind is a stroke
          have h47 : T[(numOf T).length] = 47 := by
            have key : ∀ (T : Str) (h : (T.takeWhile isNs).length < T.length), T[(T.takeWhile isNs).length] = 47 := by
              intro T
              induction T with
              | nil => intro h; simp at h
              | cons b l ih =>
                intro h
                by_cases hb : b = 47
                · subst hb; rfl
                · have e : isNs b = true := by simp [isNs, hb]
                  have e2 : ((b :: l).takeWhile isNs) = b :: l.takeWhile isNs := by rw [List.takeWhile_cons, if_pos e]
                  simp only [e2, List.length_cons, List.getElem_cons_succ] at h ⊢
                  exact ih (by omega)
            exact key T hst
          have hb : bt s ((k + (numOf T).length : Nat) : Int) = some 47 := by
            rw [bt_nat (by omega)]
            have : s[k + (numOf T).length] = T[(numOf T).length] := by simp only [k2, List.getElem_drop]
            rw [this, h47]; rfl
          rw [hb]
          simp only [bind_ok]
          rw [show f53 47 = some 3 from rfl]
          simp only [bind_ok]
          rw [if_neg (by decide), w64 (by omega) (by omega), show (((k + (numOf T).length : Nat) : Int) + 1) = ((k + (numOf T).length + 1 : Nat) : Int) by omega]
          obtain ⟨o2, c1, c2, c3⟩ := f54_eq s (by omega) (k + (numOf T).length + 1) (by omega)
          have hdd : s.drop (k + (numOf T).length + 1) = denOf T := by
            unfold denOf; rw [if_pos hst, k2, List.drop_drop, Nat.add_assoc]
          rw [hdd] at c1 c2
          rw [c1]
          simp only [bind_ok]
          have hdl : (denOf T).length = T.length - (numOf T).length - 1 := by unfold denOf; rw [if_pos hst]; simp; omega
          by_cases hd0 : 0 < ((denOf T).takeWhile isDig).length
          · rw [if_neg (by rw [decide_eq_true hd0]; decide)]
            have hdle : ((denOf T).takeWhile isDig).length ≤ (denOf T).length := (List.takeWhile_prefix _).length_le
            by_cases hall : ((denOf T).takeWhile isDig).length < (denOf T).length
            · have hcut : cutOK T = false := by
                unfold cutOK
                have : (denOf T).all isDig = false := by
                  cases h : (denOf T).all isDig with
                  | false => rfl
                  | true =>
                    rw [tw_all h] at hall; omega
                rw [this]; simp
              rw [if_pos (by rw [decide_eq_true_eq]; omega), x2 hcut]
            · have htw : (denOf T).takeWhile isDig = denOf T := by
                have := List.prefix_iff_eq_take.1 (List.takeWhile_prefix (l := denOf T) isDig)
                rw [List.take_of_length_le (by omega)] at this; exact this
              have hda : (denOf T).all isDig = true := all_tw htw
              rw [if_neg (by rw [decide_eq_true_eq]; omega)]
              rw [htw] at c2 hd0
              have hz := decA_zero (denOf T) 0 (by omega) hda
              by_cases ho : o2 = []
              · have : decA 0 (denOf T) = 0 := c2.2.2.1 ho
                have hcut : cutOK T = false := by unfold cutOK; rw [(hz.1 this).2]; simp
                subst ho
                rw [if_pos (by simp), x2 hcut]
              · have hne : decA 0 (denOf T) ≠ 0 := fun h => ho (c2.2.2.2 h)
                have h48 : (denOf T).all (· == 48) = false := by
                  cases h : (denOf T).all (· == 48) with
                  | false => rfl
                  | true => exact absurd (hz.2 ⟨rfl, h⟩) hne
                have hcut : cutOK T = true := by unfold cutOK; rw [hnum, hda, h48]; simp [hn0, hd0]
                have : 0 < o2.length := List.length_pos_iff.2 ho
                rw [if_neg (by rw [beq_iff_eq]; omega), x3 hcut out o2 a2.1 c2.1 (by omega) (by omega) a2.2.1 c2.2.1]; rfl
          · have hcut : cutOK T = false := by
              unfold cutOK
              cases hdc : denOf T with
              | nil => simp
              | cons b l =>
                rw [hdc, List.takeWhile_cons] at hd0
                cases hb : isDig b with
                | true => rw [hb] at hd0; simp at hd0
                | false => simp [hb]
            rw [if_pos (by rw [decide_eq_false hd0]; decide), x2 hcut]
        · have hd : denOf T = [49] := by unfold denOf; rw [if_neg hst]
          have hcut : cutOK T = true := by unfold cutOK; rw [hnum, hd]; simp [hn0, isDig]
          rw [if_neg (by rw [decide_eq_true_eq]; omega), x3 hcut out [1] a2.1 limOne (by omega) (by simp) a2.2.1 (by rw [hd]; rfl)]; rfl
      · have hcut : cutOK T = false := by unfold cutOK; simp [hn0]
        rw [if_pos (by rw [decide_eq_false hn0]; decide), x2 hcut]
  · -- what comes of a numeral
    have hnl := numOf_le (strip s).1
    have hTl := strip_le s
    have hdl : (denOf (strip s).1).length ≤ (strip s).1.length + 1 := by unfold denOf; split <;> simp <;> omega
    have hcc := hc
    unfold cutOK at hcc
    simp only [Bool.and_eq_true, decide_eq_true_eq, Bool.not_eq_true'] at hcc
    obtain ⟨n, n1, n2, n3, n4⟩ := f48_eq (numOf (strip s).1) (by omega) hcc.1.1.1.1
    obtain ⟨d, d1, d2, d3, d4⟩ := f48_eq (denOf (strip s).1) (by omega) hcc.1.1.2
    have hx := x3 hc n d n2.1 d2.1 (by omega) (by omega) n3 d3
    obtain ⟨y, y1, y2⟩ := f55_eq (strip s).2 n d n2.1 d2.1 (by omega) (by omega)
    rw [hx] at y1
    obtain rfl := Option.some.inj y1
    have hdz : val d ≠ 0 := fun h => by
      rw [d3] at h
      have := ((decA_zero _ 0 (by omega) hcc.1.1.2).1 h).2
      rw [this] at hcc; exact absurd hcc.2 (by simp)
    rw [if_neg hdz] at y2
    split at y2
    · rw [y2]; exact ⟨.inl rfl, by simp, by simp⟩
    · obtain ⟨p, q, _, _, _, _, y3⟩ := y2
      split at y3
      · rw [y3]; exact ⟨.inr rfl, by simp, by simp⟩
      · rename_i hlen; rw [y3]; exact ⟨.inl rfl, by simp only; omega, by simp only; omega⟩

/-! ### what a run is -/
/-- Kind, number, error. -/
def kindS (s : Str) : Int × Ratio × Int := (f22 s).getD (0, ⟨false, [], []⟩, 40)
def small (n : Ratio) : Prop := n.Num.length ≤ 16 ∧ n.Den.length ≤ 16
theorem small0 : small ⟨false, [], []⟩ := ⟨by simp, by simp⟩
theorem kind_all (s : Str) (ls : s.length ≤ 4096) : f22 s = some (kindS s) ∧ f33 s = some (⟨(kindS s).1, s, (kindS s).2.1, 0⟩, (kindS s).2.2) ∧ small (kindS s).2.1 := by
  have key : ∃ x, f22 s = some x ∧ f33 s = some (⟨x.1, s, x.2.1, 0⟩, x.2.2) ∧ small x.2.1 := by
    unfold f22 f33
    by_cases h1 : s = [46]
    · subst h1; exact ⟨(4, ⟨false, [], []⟩, 0), by simp, by simp, small0⟩
    by_cases h2 : s = [35, 116]
    · subst h2; exact ⟨(6, ⟨false, [], []⟩, 0), by simp, by simp, small0⟩
    by_cases h3 : s = [35, 102]
    · subst h3; exact ⟨(6, ⟨false, [], []⟩, 0), by simp, by simp, small0⟩
    have e1 : (s == [46]) = false := beq_eq_false_iff_ne.2 h1
    have e2 : (s == [35, 116]) = false := beq_eq_false_iff_ne.2 h2
    have e3 : (s == [35, 102]) = false := beq_eq_false_iff_ne.2 h3
    simp only [e1, e2, e3, Bool.false_eq_true, if_false]
    obtain ⟨x, x1, x2, x3, x4, x5⟩ := f45_eq s ls
    rw [x1, f34_eq s (by omega)]
    simp only [bind_ok]
    cases hc : cutOK (strip s).1 with
    | true =>
      simp only [if_true]
      rw [x2]
      simp only [bind_ok]
      rcases x4 hc with h | h
      · rw [if_pos (by simp [h])]; exact ⟨_, rfl, rfl, x5⟩
      · rw [if_neg (by simp [h]), if_pos (by simp [h])]; exact ⟨_, rfl, rfl, x5⟩
    | false =>
      simp only [Bool.false_eq_true, if_false]
      rw [x3 hc, f24_eq s (by omega), f25_eq s (by omega)]
      simp only [bind_ok]
      have e4 : ((21 : Int) == 0) = false := by decide
      have e5 : ((21 : Int) == 4) = false := by decide
      simp only [e4, e5, Bool.false_eq_true, if_false]
      cases shapeB s with
      | false => exact ⟨(0, ⟨false, [], []⟩, 40), by simp, by simp, small0⟩
      | true =>
        by_cases hl : (s.length : Int) > 32
        · exact ⟨(0, ⟨false, [], []⟩, 3), by simp [hl], by simp [hl], small0⟩
        · exact ⟨(7, ⟨false, [], []⟩, 0), by simp [hl], by simp [hl], small0⟩
  obtain ⟨x, h1, h2⟩ := key
  have : kindS s = x := by unfold kindS; rw [h1]; rfl
  rw [this]; exact ⟨h1, h2⟩
theorem kind_eq (s : Str) (ls : s.length ≤ 4096) : f22 s = some (kindS s) ∧ f33 s = some (⟨(kindS s).1, s, (kindS s).2.1, 0⟩, (kindS s).2.2) := ⟨(kind_all s ls).1, (kind_all s ls).2.1⟩
theorem kind_small (s : Str) (ls : s.length ≤ 4096) : small (kindS s).2.1 := (kind_all s ls).2.2
end Go.Bx.Scan
