import Derived.Test.YtiffendfojhapaaDoorZWped
set_option linter.unusedVariables false
set_option linter.unusedSimpArgs false
/- Plain law: commitments add; the first bases are there. -/
namespace Go.Proofs.YtiffendfojhapaaDoor

theorem smul_lin {b : Obol.Pt} (hS : Obol.Pnt.smul 72057593894066549 b = Obol.Pnt.zero) {x y z : Nat} (h : (x + y) % 72057593894066549 = z % 72057593894066549) :
    (Obol.Pnt.smul (x % 72057593894066549) b).add (Obol.Pnt.smul (y % 72057593894066549) b) = Obol.Pnt.smul (z % 72057593894066549) b := by
  rw [← h, Obol.smul_red hS, Obol.smul_red hS, Obol.smul_red hS, Obol.Pnt.smul_add]
theorem com_lin {x y z : Nat} {A B C : List Nat} (h0 : (x + y) % 72057593894066549 = z % 72057593894066549) : ∀ (j : Nat) (_ : ∀ i, i < j → (A.getD i 0 + B.getD i 0) % 72057593894066549 = C.getD i 0 % 72057593894066549) {p q : Obol.Pt},
    comN x A j = some p → comN y B j = some q → comN z C j = some (p.add q)
  | 0, _, p, q, hp, hq => by
    cases hb : baseP 0 with
    | none => rw [com_first_no hb] at hp; cases hp
    | some b =>
      rw [com_first hb] at hp hq
      obtain rfl := Option.some.inj hp
      obtain rfl := Option.some.inj hq
      rw [com_first hb, smul_lin (base_S hb).2 h0]
  | j + 1, h, p, q, hp, hq => by
    cases hp1 : comN x A j with
    | none => rw [com_none hp1 (j + 1) (by omega)] at hp; cases hp
    | some p1 =>
      cases hq1 : comN y B j with
      | none => rw [com_none hq1 (j + 1) (by omega)] at hq; cases hq
      | some q1 =>
        cases hb : baseP (j + 1) with
        | none => rw [com_stop hp1 hb] at hp; cases hp
        | some b =>
          rw [com_next hp1 hb] at hp
          rw [com_next hq1 hb] at hq
          obtain rfl := Option.some.inj hp
          obtain rfl := Option.some.inj hq
          rw [com_next (com_lin h0 j (fun i hi => h i (by omega)) hp1 hq1) hb, Obol.Pnt.add_swap, smul_lin (base_S hb).2 (h j (by omega))]

/-! the first bases -/
theorem find_some {T : List Nat} {n : Nat} : ∀ (f j k : Nat) (q : Obol.Pt), tryN T n k = some q → j ≤ k → k < j + f → ∃ q', findR T n f j = some q'
  | 0, _, _, _, _, _, _ => by omega
  | f + 1, j, k, q, h, h1, h2 => by
    rw [findR]
    cases ht : tryN T n j with
    | some p => exact ⟨p, rfl⟩
    | none =>
      have hne : j ≠ k := fun e => by rw [e, h] at ht; cases ht
      exact find_some f (j + 1) k q h (by omega) (by omega)
theorem try_at {T : List Nat} {n k x y : Nat} {v : Nat × Nat} (hc : candN T n k = y) (hx : 2 * x ≤ Obol.R) (hxl : x < Obol.R) (hyl : y < Obol.R) (hi : Obol.isQ (x, y) = true) (hv : Obol.timesQ (x, y) 4 3 Obol.zeroN = v) (hz : v ≠ Obol.zeroN) : ∃ q, tryN T n k = some q := by
  have hN : Obol.isN (x, y) = true := by rw [Obol.isN_eq]; exact hi
  have hsq : x * x % Obol.R = sqY y % Obol.R := (Obol.is_sq hxl hyl).1 hN
  have hs : Obol.sqB (sqY y) = true := (Obol.sqB_iff _).2 ⟨x, hxl, hsq⟩
  have hr : x = Obol.rootN (sqY y) := Obol.rootN_is hs hx hsq
  obtain ⟨P, hP⟩ := Obol.isN_pt hN
  have h := try_q (T := T) (n := n) (j := k) hc hs hr.symm (rfl : Obol.Pnt.smul 4 (Obol.Pnt.of (x, y)) = _)
  refine ⟨_, h.2 (fun e => hz ?_)⟩
  rw [← hP, Obol.of_n] at e
  have h4 : (Obol.Pnt.smul 4 P).n = v := Obol.smul_dec 3 (by decide) (by rw [hP]; exact hv)
  rw [← h4, e, Obol.zero_n]
theorem base_at {n k x y : Nat} {v : Nat × Nat} (hk : k < 128) (hc : candN (strL pedS) n k = y) (hx : 2 * x ≤ Obol.R) (hxl : x < Obol.R) (hyl : y < Obol.R) (hi : Obol.isQ (x, y) = true) (hv : Obol.timesQ (x, y) 4 3 Obol.zeroN = v) (hz : v ≠ Obol.zeroN) : ∃ q, baseP n = some q := by
  obtain ⟨q, hq⟩ := try_at hc hx hxl hyl hi hv hz
  rw [baseP_eq]
  exact find_some 128 0 k q hq (Nat.zero_le _) (by omega)
theorem base0 : ∃ q, baseP 0 = some q := base_at (k := 2) (x := 103715507559946268) (y := 87125116063156689) (v := (90204396999147564, 84347041657452216)) (by decide) (by unfold candN; decide +kernel) (by decide +kernel) (by decide +kernel) (by decide +kernel) (by decide +kernel) (by decide +kernel) (by decide +kernel)
theorem base1 : ∃ q, baseP 1 = some q := base_at (k := 0) (x := 76671410150327662) (y := 157158592383990474) (v := (217235644390756201, 168927567435269719)) (by decide) (by unfold candN; decide +kernel) (by decide +kernel) (by decide +kernel) (by decide +kernel) (by decide +kernel) (by decide +kernel) (by decide +kernel)
theorem base2 : ∃ q, baseP 2 = some q := base_at (k := 1) (x := 39441225863687278) (y := 186176376157046915) (v := (32189608033016994, 111916969619976793)) (by decide) (by unfold candN; decide +kernel) (by decide +kernel) (by decide +kernel) (by decide +kernel) (by decide +kernel) (by decide +kernel) (by decide +kernel)
theorem base3 : ∃ q, baseP 3 = some q := base_at (k := 1) (x := 101247746332252749) (y := 77520286453575136) (v := (88857378415030775, 38639122110608400)) (by decide) (by unfold candN; decide +kernel) (by decide +kernel) (by decide +kernel) (by decide +kernel) (by decide +kernel) (by decide +kernel) (by decide +kernel)
theorem base4 : ∃ q, baseP 4 = some q := base_at (k := 0) (x := 52407769246147993) (y := 24123346653617175) (v := (257043965975673274, 125740651497299477)) (by decide) (by unfold candN; decide +kernel) (by decide +kernel) (by decide +kernel) (by decide +kernel) (by decide +kernel) (by decide +kernel) (by decide +kernel)
theorem base_le (n : Nat) (h : n ≤ 4) : ∃ q, baseP n = some q := by
  rcases (by omega : n = 0 ∨ n = 1 ∨ n = 2 ∨ n = 3 ∨ n = 4) with rfl | rfl | rfl | rfl | rfl
  · exact base0
  · exact base1
  · exact base2
  · exact base3
  · exact base4
theorem com_some (x : Nat) (V : List Nat) : ∀ j, j ≤ 4 → ∃ q, comN x V j = some q
  | 0, _ => by
    obtain ⟨b, hb⟩ := base0
    exact ⟨_, com_first hb⟩
  | j + 1, h => by
    obtain ⟨o, ho⟩ := com_some x V j (by omega)
    obtain ⟨b, hb⟩ := base_le (j + 1) h
    exact ⟨_, com_next ho hb⟩

end Go.Proofs.YtiffendfojhapaaDoor
