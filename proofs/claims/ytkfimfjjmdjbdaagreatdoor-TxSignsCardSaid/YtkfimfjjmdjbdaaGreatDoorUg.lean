import Derived.Test.YtkfimfjjmdjbdaaGreatDoorUc
import Derived.Test.YtkfimfjjmdjbdaaGreatDoorUf
import Derived.Test.YtkfimfjjmdjbdaaGreatDoorUb
set_option linter.unusedVariables false
set_option linter.unusedSimpArgs false
set_option linter.unusedSectionVars false
/- Walks: package curve: what is reckoned with numbers, whether three values are a point. -/
namespace Go.Proofs.YtkfimfjjmdjbdaaGreatDoor
open Go.RowKit

theorem litP : (1152921505151057923 : Int).toNat = Obol.P := by decide +kernel
theorem PAdd (a b : Int) (ha : 0 ≤ a) (hb : 0 ≤ b) (w : World) :
    Calls Tryz.prog 88 #[.int .u64 1152921505151057923, .int .u64 a, .int .u64 b] w fun e w' => e = .returned (.int .u64 ((Obol.addP a.toNat b.toNat : Nat) : Int)) ∧ ∃ n, w' = w.drewN n := by
  have h := mAdd 1152921505151057923 a b (by omega) (by omega) ha hb w
  rw [litP] at h
  rw [Obol.addP_eq]
  exact h
theorem PSub (a b : Int) (ha : 0 ≤ a) (hb : 0 ≤ b) (w : World) :
    Calls Tryz.prog 89 #[.int .u64 1152921505151057923, .int .u64 a, .int .u64 b] w fun e w' => e = .returned (.int .u64 ((Obol.subP a.toNat b.toNat : Nat) : Int)) ∧ ∃ n, w' = w.drewN n := by
  have h := mSub 1152921505151057923 a b (by omega) (by omega) ha hb w
  rw [litP] at h
  rw [Obol.subP_eq]
  exact h
theorem PMul (a b : Int) (ha : 0 ≤ a) (hb : 0 ≤ b) (w : World) :
    Calls Tryz.prog 91 #[.int .u64 1152921505151057923, .int .u64 a, .int .u64 b] w fun e w' => e = .returned (.int .u64 ((Obol.mulP a.toNat b.toNat : Nat) : Int)) ∧ ∃ n, w' = w.drewN n := by
  have h := mMul 1152921505151057923 a b (by omega) (by omega) ha hb w
  rw [litP] at h
  rw [Obol.mulP_eq]
  exact h
theorem cMul (a b : Int) (ha : 0 ≤ a) (hb : 0 ≤ b) (w : World) :
    Calls Tryz.prog 96 #[.int .u64 a, .int .u64 b] w fun e w' => e = .returned (.int .u64 ((Obol.mulP a.toNat b.toNat : Nat) : Int)) ∧ ∃ n, w' = w.drewN n := by
  go_enter Tryz.func96, Tryz.ntmps96
  go_wp2_with (go_at_call 91; refine (PMul _ _ ha hb _).mono ?_; rintro e w' ⟨rfl, n, rfl⟩)
  go_ret
  exact ⟨rfl, _, rfl⟩
theorem cSub (a b : Int) (ha : 0 ≤ a) (hb : 0 ≤ b) (w : World) :
    Calls Tryz.prog 112 #[.int .u64 a, .int .u64 b] w fun e w' => e = .returned (.int .u64 ((Obol.subP a.toNat b.toNat : Nat) : Int)) ∧ ∃ n, w' = w.drewN n := by
  go_enter Tryz.func112, Tryz.ntmps112
  go_wp2_with (go_at_call 89; refine (PSub _ _ ha hb _).mono ?_; rintro e w' ⟨rfl, n, rfl⟩)
  go_ret
  exact ⟨rfl, _, rfl⟩

abbrev ptV (i : Bool) (X Y : Int) : Value := .agg #[.bool i, .int .u64 X, .int .u64 Y]
/-- Is it a point? -/
noncomputable def isPt (i : Bool) (X Y : Int) : Bool := if i = true then X == 0 && Y == 0 else Obol.isC X.toNat Y.toNat

theorem isC_far1 {x y : Nat} (h : 1152921505151057923 ≤ x) : Obol.isC x y = false := by
  unfold Obol.isC
  rw [decide_eq_false (show ¬ x < Obol.P by rw [Obol.P_def]; omega)]
  rfl
theorem isC_far2 {x y : Nat} (h : 1152921505151057923 ≤ y) : Obol.isC x y = false := by
  unfold Obol.isC
  rw [decide_eq_false (show ¬ y < Obol.P by rw [Obol.P_def]; omega), Bool.and_false, Bool.false_and]
theorem isC_near {x y : Nat} (h1 : x < 1152921505151057923) (h2 : y < 1152921505151057923) :
    Obol.isC x y = (((Obol.mulP y y : Nat) : Int) == ((Obol.addP (Obol.mulP (Obol.mulP x x) x) x : Nat) : Int)) := by
  unfold Obol.isC
  rw [decide_eq_true (show x < Obol.P by rw [Obol.P_def]; omega), decide_eq_true (show y < Obol.P by rw [Obol.P_def]; omega), Bool.true_and, Bool.true_and, Bool.eq_iff_iff, decide_eq_true_eq, beq_iff_eq, Int.ofNat_inj]

theorem cIs (i : Bool) (X Y : Int) (hX : 0 ≤ X) (hY : 0 ≤ Y) (w : World) :
    Calls Tryz.prog 75 #[ptV i X Y] w fun e w' => e = .returned (.bool (isPt i X Y)) ∧ Below w.heap.size w w' := by
  cases i
  · have hi : isPt false X Y = Obol.isC X.toNat Y.toNat := rfl
    rw [hi]
    clear hi
    by_cases h1 : (1152921505151057923 : Int) ≤ X
    · have hr := Lib.hid (isC_far1 (x := X.toNat) (y := Y.toNat) (by omega))
      have hd : decide (X < 1152921505151057923) = false := decide_eq_false (by omega)
      go_enter Tryz.func75, Tryz.ntmps75
      go_wp2_with fail
      go_quiet (fail)
      go_wp2_with fail
      go_ret
      exact ⟨by rw [hr.out]; rfl, by repeat (first | exact Below.refl _ _ | assumption | apply bDrewN | apply bDrew | apply bAlloc | refine bSet ?_ (by omega) | refine bThen ?_ (by assumption) (by simp <;> omega))⟩
    · by_cases h2 : (1152921505151057923 : Int) ≤ Y
      · have hr := Lib.hid (isC_far2 (x := X.toNat) (y := Y.toNat) (by omega))
        have hd : decide (X < 1152921505151057923) = true := decide_eq_true (by omega)
        have hd2 : decide (Y < 1152921505151057923) = false := decide_eq_false (by omega)
        go_enter Tryz.func75, Tryz.ntmps75
        go_wp2_with fail
        go_quiet (fail)
        go_wp2_with fail
        go_ret
        exact ⟨by rw [hr.out]; rfl, by repeat (first | exact Below.refl _ _ | assumption | apply bDrewN | apply bDrew | apply bAlloc | refine bSet ?_ (by omega) | refine bThen ?_ (by assumption) (by simp <;> omega))⟩
      · have hr := Lib.hid (isC_near (x := X.toNat) (y := Y.toNat) (by omega) (by omega))
        have hd : decide (X < 1152921505151057923) = true := decide_eq_true (by omega)
        have hd2 : decide (Y < 1152921505151057923) = true := decide_eq_true (by omega)
        go_enter Tryz.func75, Tryz.ntmps75
        go_wp2_with fail
        go_quiet ((first | (go_at_call 96; first | (refine Calls.quiet_of (cMul _ _ ?_ ?_ _) <;> omega) | (refine quiet_add (cMul _ _ ?_ ?_ _) <;> omega)) | (go_at_call 88; first | (refine Calls.quiet_of (PAdd _ _ ?_ ?_ _) <;> omega) | (refine quiet_add (PAdd _ _ ?_ ?_ _) <;> omega))))
        go_wp2_with fail
        go_ret
        exact ⟨by rw [hr.out]; rfl, by repeat (first | exact Below.refl _ _ | assumption | apply bDrewN | apply bDrew | apply bAlloc | refine bSet ?_ (by omega) | refine bThen ?_ (by assumption) (by simp <;> omega))⟩
  · have hr := Lib.hid (show isPt true X Y = (X == 0 && Y == 0) from rfl)
    by_cases h1 : X = 0
    · by_cases h2 : Y = 0
      · subst h1 h2
        go_enter Tryz.func75, Tryz.ntmps75
        go_wp2_with fail
        go_ret
        exact ⟨by rw [hr.out]; rfl, by repeat (first | exact Below.refl _ _ | assumption | apply bDrewN | apply bDrew | apply bAlloc | refine bSet ?_ (by omega) | refine bThen ?_ (by assumption) (by simp <;> omega))⟩
      · subst h1
        have h3 : (Y == 0) = false := beq_eq_false_iff_ne.2 h2
        replace h2 := Lib.hid h2
        go_enter Tryz.func75, Tryz.ntmps75
        go_wp2_with fail
        go_ret
        exact ⟨by rw [hr.out, h3]; rfl, by repeat (first | exact Below.refl _ _ | assumption | apply bDrewN | apply bDrew | apply bAlloc | refine bSet ?_ (by omega) | refine bThen ?_ (by assumption) (by simp <;> omega))⟩
    · have h3 : (X == 0) = false := beq_eq_false_iff_ne.2 h1
      replace h1 := Lib.hid h1
      go_enter Tryz.func75, Tryz.ntmps75
      go_wp2_with fail
      go_ret
      exact ⟨by rw [hr.out, h3]; rfl, by repeat (first | exact Below.refl _ _ | assumption | apply bDrewN | apply bDrew | apply bAlloc | refine bSet ?_ (by omega) | refine bThen ?_ (by assumption) (by simp <;> omega))⟩

theorem cInf (w : World) :
    Calls Tryz.prog 95 #[] w fun e w' => e = .returned (ptV true 0 0) ∧ Below w.heap.size w w' := by
  go_enter Tryz.func95, Tryz.ntmps95
  go_wp2_with fail
  refine bodyPost_ret (v := ptV true 0 0) (by simp [results, Tryz.results95, go_sem]) rfl ⟨rfl, ?_⟩
  repeat (first | exact Below.refl _ _ | assumption | apply bDrewN | apply bDrew | apply bAlloc | refine bSet ?_ (by omega) | refine bThen ?_ (by assumption) (by simp <;> omega))

theorem cSure (i : Bool) (X Y : Int) (hX : 0 ≤ X) (hY : 0 ≤ Y) (hp : isPt i X Y = true) (w : World) :
    Calls Tryz.prog 97 #[ptV i X Y] w fun e w' => e = .returned (ptV i X Y) ∧ Below w.heap.size w w' := by
  have hI := Lib.hid hp
  clear hp
  go_enter Tryz.func97, Tryz.ntmps97
  go_wp2_with (go_at_call 75; refine (cIs _ _ _ hX hY _).mono ?_; rintro e w1 ⟨rfl, hb⟩; rw [hI.out]; obtain ⟨hc, hf⟩ := bcell hb; have hz := hb.size; (try simp at hz))
  refine bodyPost_ret (v := ptV i X Y) (by simp [results, Tryz.results97, go_sem, hc]) rfl ⟨rfl, ?_⟩
  repeat (first | exact Below.refl _ _ | assumption | apply bDrewN | apply bDrew | apply bAlloc | refine bSet ?_ (by omega) | refine bThen ?_ (by assumption) (by simp <;> omega))

end Go.Proofs.YtkfimfjjmdjbdaaGreatDoor
/- Four times S times any point is 0: by counting points. The first point's order is S. -/
namespace Obol

theorem Root.prm {N g : Nat} (h : Root N g) : Prm N := by
  have hb := h.big
  refine ⟨by omega, fun d hd => ?_⟩
  obtain ⟨c, hc⟩ := hd
  refine Classical.byContradiction fun hn => ?_
  have hn := not_or.1 hn
  have hd0 : 0 < d := by
    rcases Nat.eq_zero_or_pos d with e | e
    · rw [e, Nat.zero_mul] at hc; omega
    · exact e
  have hc0 : 0 < c := by
    rcases Nat.eq_zero_or_pos c with e | e
    · rw [e, Nat.mul_zero] at hc; omega
    · exact e
  have hdl : d < N := by
    have : d ≤ N := by rw [hc]; exact Nat.le_mul_of_pos_right _ hc0
    omega
  have hcl : c < N := by
    have h1 : c ≤ N := by rw [hc]; exact Nat.le_mul_of_pos_left _ hd0
    have h2 : c ≠ N := fun e => by
      rw [e] at hc
      have : d * N = 1 * N := by rw [Nat.one_mul]; exact hc.symm
      exact hn.1 (Nat.eq_of_mul_eq_mul_right (by omega) this)
    omega
  refine h.nonzero (a := d) (b := c) (by rw [Nat.mod_eq_of_lt hdl]; omega) (by rw [Nat.mod_eq_of_lt hcl]; omega) ?_
  rw [← hc, Nat.mod_self]

theorem smul_gcd (p : Pt) : ∀ (a b : Nat), Pnt.smul a p = Pnt.zero → Pnt.smul b p = Pnt.zero → Pnt.smul (Nat.gcd a b) p = Pnt.zero := by
  intro a
  induction a using Nat.strongRecOn with
  | _ a ih =>
    intro b ha hb
    by_cases h0 : a = 0
    · subst h0; rw [Nat.gcd_zero_left]; exact hb
    · rw [Nat.gcd_rec]
      refine ih (b % a) (Nat.mod_lt _ (by omega)) a ?_ ha
      have h1 : Pnt.smul (a * (b / a) + b % a) p = Pnt.zero := by rw [Nat.div_add_mod]; exact hb
      rw [Pnt.smul_add, Nat.mul_comm, Pnt.smul_mul, ha, Pnt.smul_zero, Pnt.zero_add] at h1
      exact h1

/-- No multiple below n is 0, where n over no prime of it is. -/
theorem smul_order (p : Pt) (n : Nat) (hn : 0 < n) (l : List Nat) (hl : ∀ q, q ∈ l → Prm q) (hf : l.foldr (· * ·) 1 = n) (h1 : Pnt.smul n p = Pnt.zero)
    (hq : ∀ q, q ∈ l → Pnt.smul (n / q) p ≠ Pnt.zero) (i : Nat) (h0 : 0 < i) (hi : i < n) : Pnt.smul i p ≠ Pnt.zero := by
  intro he
  have hd := smul_gcd p i n he h1
  have hdi := Nat.gcd_dvd_left i n
  obtain ⟨m, hm⟩ := Nat.gcd_dvd_right i n
  have hle := Nat.le_of_dvd h0 hdi
  have hm1 : 1 < m := by
    refine Nat.lt_of_not_le fun hle1 => ?_
    have : m = 0 ∨ m = 1 := by omega
    rcases this with e | e
    · rw [e, Nat.mul_zero] at hm; omega
    · rw [e, Nat.mul_one] at hm; omega
  obtain ⟨q, hql, c, hc⟩ := prm_in l hl m hm1 (by rw [hf]; exact ⟨Nat.gcd i n, by rw [Nat.mul_comm]; exact hm⟩)
  have hq1 := (hl q hql).1
  refine hq q hql ?_
  have : n / q = c * Nat.gcd i n := by
    refine Nat.div_eq_of_eq_mul_right (by omega) ?_
    rw [← Nat.mul_assoc, ← hc, Nat.mul_comm]
    exact hm
  rw [this, Pnt.smul_mul, hd, Pnt.smul_zero]

/-- A point of order 4 S. -/
def C : Pt := ⟨fr 122714579359187509, fr 218550362766627754, (on_iff _ _).2 (by rw [isN_eq]; decide +kernel)⟩
theorem C_n : C.n = (122714579359187509, 218550362766627754) := by decide +kernel

theorem smul_dec {p : Pt} {k : Nat} {v : Nat × Nat} (b : Nat) (hk : k < 2 ^ b) (h : timesQ p.n k b zeroN = v) : (Pnt.smul k p).n = v := by
  rw [← timesQ_n p k b hk]; exact h

theorem C_4S : Pnt.smul (4 * S) C = Pnt.zero :=
  Pnt.n_inj ((smul_dec 60 (by decide +kernel) (by rw [C_n]; exact of_decide_eq_true (by decide +kernel))).trans zero_n.symm)
theorem C_2S : (Pnt.smul (2 * S) C).n = (0, R - 1) := smul_dec 60 (by decide +kernel) (by rw [C_n]; exact of_decide_eq_true (by decide +kernel))
theorem C_S : (Pnt.smul S C).n = (263209301981812971, 0) := smul_dec 60 (by decide +kernel) (by rw [C_n]; exact of_decide_eq_true (by decide +kernel))
theorem y_of_n {q : Pt} {a : Nat} (h : q.n = (a, 0)) : q.y = 0 := val_eq_zero.2 (congrArg Prod.snd h)
theorem C_S_y : (Pnt.smul S C).y = 0 := y_of_n C_S
theorem C_4 : (Pnt.smul 4 C).n = (102079033001587460, 266919760672381183) := smul_dec 60 (by decide +kernel) (by rw [C_n]; exact of_decide_eq_true (by decide +kernel))

theorem C_order (i : Nat) (h0 : 0 < i) (hi : i < 4 * S) : Pnt.smul i C ≠ Pnt.zero := by
  refine smul_order C (4 * S) (by decide +kernel) [2, 2, S] ?_ (by decide +kernel) C_4S ?_ i h0 hi
  · intro q hq
    have : q = 2 ∨ q = S := by simpa using hq
    rcases this with e | e
    · rw [e]; exact prm_of 0 2 (by decide) (by decide) (by decide)
    · rw [e]; exact rootS.prm
  · intro q hq he
    have : q = 2 ∨ q = S := by simpa using hq
    rcases this with e | e
    · rw [e, show 4 * S / 2 = 2 * S by decide +kernel] at he
      have h1 := congrArg Pnt.n he
      rw [C_2S, zero_n] at h1
      exact absurd h1 (by decide +kernel)
    · rw [e, show 4 * S / S = 4 by decide +kernel] at he
      have h1 := congrArg Pnt.n he
      rw [C_4, zero_n] at h1
      exact absurd h1 (by decide +kernel)

/-! halves -/
theorem half_zero (p : Pt) (h : p.add p = Pnt.zero) : p = Pnt.zero ∨ p = Pnt.smul (2 * S) C := by
  rcases p.half h with e | ⟨e, hy⟩
  · exact .inl e
  · right
    refine Pnt.n_inj ?_
    rw [C_2S]
    unfold Pnt.n
    rw [e, hy, val_zero, val_neg, val_one, Nat.mod_eq_of_lt (by decide +kernel)]

theorem no_eighth (p q : Pt) (hq : q.y = 0) : p.add p ≠ q := by
  intro h
  have hv := congrArg Fin.val (p.eighth q hq h)
  rw [val_mul, val_add K.d, d_val, val_one] at hv
  have := rootR.euler (by decide +kernel) (439 + 1) _ (by decide +kernel) hv
  rw [← powm_eq R 64 (439 + 1) ((R - 1) / 2) (by decide +kernel)] at this
  exact absurd this (by decide +kernel)

/-! what tells a point: its Y, and in which half its X is -/
def code (p : Pt) : Nat := p.y.val + if 2 * p.x.val < R then 0 else R
theorem code_lt (p : Pt) : code p < 2 * R := by
  unfold code
  have := p.y.isLt
  split <;> omega

theorem code_inj {p q : Pt} (h : code p = code q) : p = q := by
  unfold code at h
  have a1 := p.y.isLt
  have a2 := q.y.isLt
  have a3 := p.x.isLt
  have a4 := q.x.isLt
  have hy : p.y.val = q.y.val := by split at h <;> split at h <;> omega
  have hy' : p.y = q.y := Fin.ext hy
  refine Pnt.ext ?_ hy'
  rcases K.x_of_y p.on (hy' ▸ q.on) with e | e
  · exact e
  · have hv := congrArg Fin.val e
    rw [val_neg] at hv
    by_cases h0 : q.x.val = 0
    · have : q.x = 0 := val_eq_zero.2 h0
      rw [e, this, K.neg_zero]
    · exfalso
      rw [Nat.mod_eq_of_lt (by omega)] at hv
      have hodd : R % 2 = 1 := by decide +kernel
      split at h <;> split at h <;> omega

theorem smul_C_turn (j t : Nat) : Pnt.smul (j + 4 * S * t) C = Pnt.smul j C := by
  rw [Pnt.smul_add, Nat.mul_comm (4 * S), Pnt.smul_mul, C_4S, Pnt.smul_zero, Pnt.add_zero]

theorem Pnt.smul_nil (p : Pt) : Pnt.smul 0 p = Pnt.zero := rfl
theorem m_turn (m : Nat) : m + m * (4 * S - 1) = 4 * S * m := by
  have sS : 0 < S := by decide +kernel
  have e2 : 4 * S * m = (4 * S - 1) * m + m := by
    rw [← Nat.succ_mul]
    rfl
  rw [e2, Nat.mul_comm m]
  omega

theorem killed (p : Pt) : Pnt.smul (4 * S) p = Pnt.zero := by
  refine Classical.byContradiction fun hp => ?_
  have sS : 0 < S := by decide +kernel
  have hA : ∀ j, p ≠ Pnt.smul j C := fun j e => hp (by
    rw [e, ← Pnt.smul_mul, Nat.mul_comm, Pnt.smul_mul, C_4S, Pnt.smul_zero])
  -- from p + m C = a C follows p in the multiples of C
  have hA' : ∀ m a, p.add (Pnt.smul m C) ≠ Pnt.smul a C := fun m a e => hA (a + m * (4 * S - 1)) (by
    rw [Pnt.smul_add, ← e, Pnt.add_assoc, ← Pnt.smul_add]
    have : m + m * (4 * S - 1) = 0 + 4 * S * m := by rw [Nat.zero_add, m_turn]
    rw [this, smul_C_turn, Pnt.smul_nil, Pnt.add_zero])
  have dbl : ∀ m, (p.add (Pnt.smul m C)).add (p.add (Pnt.smul m C)) = (p.add p).add (Pnt.smul (m + m) C) := fun m => by
    rw [Pnt.add_swap, Pnt.smul_add]
  have hB : ∀ j, p.add p ≠ Pnt.smul j C := by
    intro j e
    by_cases hj : j % 2 = 0
    · have hm := dbl (j / 2 * (4 * S - 1))
      rw [e, ← Pnt.smul_add] at hm
      have : j + (j / 2 * (4 * S - 1) + j / 2 * (4 * S - 1)) = 0 + 4 * S * j := by
        have e1 : j / 2 * (4 * S - 1) + j / 2 * (4 * S - 1) = j * (4 * S - 1) := by
          rw [← Nat.add_mul]
          congr 1
          omega
        rw [e1, Nat.zero_add, m_turn]
      rw [this, smul_C_turn] at hm
      rcases half_zero _ hm with h | h
      · exact hA' _ 0 h
      · exact hA' _ _ h
    · have hS : S % 2 = 1 := by decide +kernel
      have e0 : (4 * S - 1) * j % 2 = 1 := by rw [Nat.mul_mod]; have : (4 * S - 1) % 2 = 1 := by omega
                                              rw [this, show j % 2 = 1 by omega]
      have hm := dbl ((S + (4 * S - 1) * j) / 2)
      rw [e, ← Pnt.smul_add] at hm
      have : j + ((S + (4 * S - 1) * j) / 2 + (S + (4 * S - 1) * j) / 2) = S + 4 * S * j := by
        have e1 : (S + (4 * S - 1) * j) / 2 + (S + (4 * S - 1) * j) / 2 = S + (4 * S - 1) * j := by omega
        rw [e1]
        have e2 := m_turn j
        rw [Nat.mul_comm j] at e2
        omega
      rw [this, smul_C_turn] at hm
      exact no_eighth _ _ C_S_y hm
  -- 12 S points
  have hsm : ∀ k j, 0 < k → k < 3 → Pnt.smul k p ≠ Pnt.smul j C := by
    intro k j h0 h3 e
    have : k = 1 ∨ k = 2 := by omega
    rcases this with h | h
    · subst h; rw [Pnt.smul_one] at e; exact hA j e
    · subst h
      have : Pnt.smul 2 p = p.add p := by
        show (Pnt.smul 1 p).add p = _
        rw [Pnt.smul_one]
      rw [this] at e
      exact hB j e
  have hinj : ∀ k k' i i', k ≤ k' → k' < 3 → i < 4 * S → i' < 4 * S → (Pnt.smul k p).add (Pnt.smul i C) = (Pnt.smul k' p).add (Pnt.smul i' C) → k = k' ∧ i = i' := by
    intro k k' i i' hk hk' hi hi' e
    have ek : k' = k + (k' - k) := by omega
    rw [ek, Pnt.smul_add, Pnt.add_assoc] at e
    have e := Pnt.add_cancel e
    by_cases hz : k' - k = 0
    · refine ⟨by omega, ?_⟩
      rw [hz] at e
      have e : Pnt.smul i C = Pnt.zero.add (Pnt.smul i' C) := e
      rw [Pnt.zero_add] at e
      have hno : ∀ a b, a < b → b < 4 * S → Pnt.smul a C ≠ Pnt.smul b C := by
        intro a b hab hb e
        have hb' : b = a + (b - a) := by omega
        rw [hb', Pnt.smul_add, ← Pnt.add_zero (Pnt.smul a C), Pnt.add_assoc, Pnt.zero_add] at e
        exact C_order (b - a) (by omega) (by omega) (Pnt.add_cancel e).symm
      rcases Nat.lt_trichotomy i i' with h | h | h
      · exact absurd e (hno i i' h hi')
      · exact h
      · exact absurd e.symm (hno i' i h hi)
    · exfalso
      refine hsm (k' - k) (i + i' * (4 * S - 1)) (by omega) (by omega) ?_
      rw [Pnt.smul_add, e, Pnt.add_assoc, ← Pnt.smul_add]
      have : i' + i' * (4 * S - 1) = 0 + 4 * S * i' := by rw [Nat.zero_add, m_turn]
      rw [this, smul_C_turn, Pnt.smul_nil, Pnt.add_zero]
  have h12 := pigeon (2 * R) (12 * S) (fun n => code ((Pnt.smul (n / (4 * S)) p).add (Pnt.smul (n % (4 * S)) C))) (fun _ _ => code_lt _) (by
    intro a b ha hb e
    have e := code_inj e
    have la : a % (4 * S) < 4 * S := Nat.mod_lt _ (by omega)
    have lb : b % (4 * S) < 4 * S := Nat.mod_lt _ (by omega)
    have da := Nat.div_add_mod a (4 * S)
    have db := Nat.div_add_mod b (4 * S)
    have qa : a / (4 * S) < 3 := by rw [Nat.div_lt_iff_lt_mul (by omega)]; omega
    have qb : b / (4 * S) < 3 := by rw [Nat.div_lt_iff_lt_mul (by omega)]; omega
    have both : a / (4 * S) = b / (4 * S) ∧ a % (4 * S) = b % (4 * S) := by
      rcases Nat.le_total (a / (4 * S)) (b / (4 * S)) with h | h
      · exact hinj _ _ _ _ h qb la lb e
      · have := hinj _ _ _ _ h qa lb la e.symm
        exact ⟨this.1.symm, this.2.symm⟩
    rw [← da, ← db, both.1, both.2])
  have : ¬ (12 * S ≤ 2 * R) := by decide +kernel
  exact this h12

/-- The first point, and its order. -/
def G : Pt := ⟨fr 223588670687113535, fr 82055451961885530, (on_iff _ _).2 (by rw [isN_eq]; decide +kernel)⟩
theorem G_n : G.n = (223588670687113535, 82055451961885530) := by decide +kernel
theorem G_S : Pnt.smul S G = Pnt.zero :=
  Pnt.n_inj ((smul_dec 60 (by decide +kernel) (by rw [G_n]; exact of_decide_eq_true (by decide +kernel))).trans zero_n.symm)
theorem G_ne : G ≠ Pnt.zero := fun e => by
  have := congrArg Pnt.n e
  rw [G_n, zero_n] at this
  exact absurd this (by decide +kernel)
theorem order_S {p : Pt} (h : Pnt.smul S p = Pnt.zero) (hp : p ≠ Pnt.zero) (i : Nat) (h0 : 0 < i) (hi : i < S) : Pnt.smul i p ≠ Pnt.zero :=
  smul_order p S (by decide +kernel) [S] (by intro q hq; rw [List.mem_singleton.1 hq]; exact rootS.prm) (by decide +kernel) h
    (by intro q hq; rw [List.mem_singleton.1 hq, Nat.div_self (by decide +kernel), Pnt.smul_one]; exact hp) i h0 hi

end Obol
