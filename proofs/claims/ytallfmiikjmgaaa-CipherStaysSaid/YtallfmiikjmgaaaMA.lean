
/- Long division, a digit at a time: what the guess of a digit comes to. Y = yn1 B + yn0; u B + d is divided by Y. -/
namespace Obol

theorem guess_le {B Y u d yn1 yn0 : Nat} (hY : Y = yn1 * B + yn0) (h1 : 0 < yn1) (hd : d < B) : (u * B + d) / Y ≤ u / yn1 := by
  rw [Nat.le_div_iff_mul_le h1]
  have h2 : (u * B + d) / Y * Y ≤ u * B + d := Nat.div_mul_le_self _ _
  generalize (u * B + d) / Y = q at *
  rw [hY, Nat.mul_add, ← Nat.mul_assoc] at h2
  refine Nat.le_of_not_lt fun hlt => ?_
  have h3 : (u + 1) * B ≤ q * yn1 * B := Nat.mul_le_mul_right _ hlt
  rw [Nat.succ_mul] at h3
  have : 0 ≤ q * yn0 := Nat.zero_le _
  omega

theorem guess_big {B Y u d yn1 yn0 q r : Nat} (hY : Y = yn1 * B + yn0) (hYp : 0 < Y) (hq : q * yn1 + r = u) (h : B * r + d < q * yn0) : (u * B + d) / Y < q := by
  rw [Nat.div_lt_iff_lt_mul hYp, hY, Nat.mul_add, ← Nat.mul_assoc, ← hq, Nat.add_mul, Nat.mul_comm r B]
  omega

theorem guess_fits {B Y u d yn1 yn0 q r : Nat} (hY : Y = yn1 * B + yn0) (hYp : 0 < Y) (hq : q * yn1 + r = u) (h : q * yn0 ≤ B * r + d) : q ≤ (u * B + d) / Y := by
  rw [Nat.le_div_iff_mul_le hYp, hY, Nat.mul_add, ← Nat.mul_assoc, ← hq, Nat.add_mul, Nat.mul_comm r B]
  omega

theorem digit_lt {B Y u d : Nat} (hd : d < B) (hu : u < Y) : (u * B + d) / Y < B := by
  rw [Nat.div_lt_iff_lt_mul (by omega)]
  have : (u + 1) * B ≤ Y * B := Nat.mul_le_mul_right _ hu
  rw [Nat.succ_mul] at this
  rw [Nat.mul_comm B]
  omega

theorem guess_over {B d yn0 q r : Nat} (h0 : yn0 < B) (hq : q ≤ B) (hr : B ≤ r) : q * yn0 ≤ B * r + d := by
  have h1 : q * yn0 ≤ B * yn0 := Nat.mul_le_mul_right _ hq
  have h2 : B * yn0 ≤ B * r := Nat.mul_le_mul_left _ (by omega)
  omega

theorem guess_near {B Y u yn1 yn0 : Nat} (hY : Y = yn1 * B + yn0) (h0 : yn0 < B) (h2 : B ≤ 2 * yn1) (hu : u < Y) : u / yn1 ≤ B + 1 := by
  have h1 : 0 < yn1 := by omega
  refine Nat.le_of_lt_succ ?_
  rw [Nat.div_lt_iff_lt_mul h1, Nat.succ_mul, Nat.add_mul, Nat.one_mul, Nat.mul_comm B]
  omega

/-- The whole: two digits, one behind the other. -/
theorem two_digits {B Y u d1 d0 : Nat} :
    ((u * B + d1) % Y * B + d0) % Y = ((u * B + d1) * B + d0) % Y := by
  rw [Nat.add_mod, Nat.mul_mod, Nat.mod_mod, ← Nat.mul_mod, ← Nat.add_mod]

end Obol
/- Numbers: the pigeonhole, powers modulo a number, and that a number with a root of full order is a prime (Lucas). No program in sight. -/
namespace Obol

theorem pigeon : ∀ (m n : Nat) (f : Nat → Nat), (∀ i, i < n → f i < m) → (∀ i j, i < n → j < n → f i = f j → i = j) → n ≤ m
  | 0, n, f, hf, _ => by
    cases n with
    | zero => exact Nat.le_refl _
    | succ n => exact absurd (hf 0 (by omega)) (by omega)
  | m + 1, n, f, hf, hi => by
    cases n with
    | zero => omega
    | succ n =>
      have h := pigeon m n (fun i => if f i = m then f n else f i)
        (fun i hin => by
          show (if f i = m then f n else f i) < m
          have h1 := hf i (by omega)
          have h2 := hf n (by omega)
          split
          · rename_i he
            have : f n ≠ m := fun e => by
              have := hi i n (by omega) (by omega) (he.trans e.symm)
              omega
            omega
          · omega)
        (fun i j hin hjn he => by
          have he : (if f i = m then f n else f i) = (if f j = m then f n else f j) := he
          split at he
          · split at he
            · rename_i a b
              exact hi i j (by omega) (by omega) (a.trans b.symm)
            · have := hi n j (by omega) (by omega) he
              omega
          · split at he
            · have := hi i n (by omega) (by omega) he
              omega
            · exact hi i j (by omega) (by omega) he)
      omega

theorem onto (n : Nat) (f : Nat → Nat) (hf : ∀ i, i < n → f i < n) (hi : ∀ i j, i < n → j < n → f i = f j → i = j) (v : Nat) (hv : v < n) : ∃ i, i < n ∧ f i = v := by
  refine Classical.byContradiction fun hno => ?_
  have hno : ∀ i, i < n → f i ≠ v := fun i hin e => hno ⟨i, hin, e⟩
  have h := pigeon n (n + 1) (fun i => if i < n then f i else v)
    (fun i hin => by
      show (if i < n then f i else v) < n
      split
      · rename_i h; exact hf i h
      · exact hv)
    (fun i j hin hjn he => by
      have he : (if i < n then f i else v) = (if j < n then f j else v) := he
      split at he
      · split at he
        · rename_i a b; exact hi i j a b he
        · rename_i a b; exact absurd he (hno i a)
      · split at he
        · rename_i a b; exact absurd he.symm (hno j b)
        · omega)
  omega

/-! powers modulo a number -/
def powm (m : Nat) : Nat → Nat → Nat → Nat
  | 0, _, _ => 1 % m
  | f + 1, a, e => if e = 0 then 1 % m else if e % 2 = 1 then a * powm m f (a * a % m) (e / 2) % m else powm m f (a * a % m) (e / 2)

theorem powm_eq (m : Nat) : ∀ (f a e : Nat), e < 2 ^ f → powm m f a e = a ^ e % m
  | 0, a, e, h => by
    have : e = 0 := by simpa using h
    subst this
    rfl
  | f + 1, a, e, h => by
    have ih := powm_eq m f (a * a % m) (e / 2) (by rw [Nat.pow_succ] at h; omega)
    have hsq : (a * a % m) ^ (e / 2) % m = a ^ (2 * (e / 2)) % m := by
      rw [← Nat.pow_mod, Nat.pow_mul, Nat.pow_two]
    unfold powm
    by_cases h0 : e = 0
    · rw [if_pos h0, h0, Nat.pow_zero]
    · rw [if_neg h0, ih, hsq]
      by_cases h1 : e % 2 = 1
      · rw [if_pos h1, Nat.mul_mod, Nat.mod_mod, ← Nat.mul_mod, Nat.mul_comm, ← Nat.pow_succ]
        congr 2
        omega
      · rw [if_neg h1]
        congr 2
        omega

/-- No number from k on, below k + f, divides q. -/
def none : Nat → Nat → Nat → Bool
  | 0, _, _ => true
  | f + 1, k, q => q % k != 0 && none f (k + 1) q

theorem none_spec : ∀ (f k q : Nat), none f k q = true → ∀ d, k ≤ d → d < k + f → q % d ≠ 0
  | 0, k, q, _, d, h1, h2 => by omega
  | f + 1, k, q, h, d, h1, h2 => by
    unfold none at h
    simp only [Bool.and_eq_true, bne_iff_ne, ne_eq] at h
    by_cases e : d = k
    · rw [e]; exact h.1
    · exact none_spec f (k + 1) q h.2 d (by omega) (by omega)

/-- A number whose divisors are 1 and it. -/
def Prm (q : Nat) : Prop := 1 < q ∧ ∀ d, d ∣ q → d = 1 ∨ d = q

theorem prm_of (f q : Nat) (h1 : 1 < q) (h : none f 2 q = true) (hs : q < (f + 2) * (f + 2)) : Prm q := by
  refine ⟨h1, fun d hd => ?_⟩
  obtain ⟨c, hc⟩ := hd
  have hn := none_spec f 2 q h
  by_cases hd1 : d = 1
  · exact .inl hd1
  by_cases hdq : d = q
  · exact .inr hdq
  exfalso
  have hd0 : 0 < d := by
    rcases Nat.eq_zero_or_pos d with e | e
    · rw [e, Nat.zero_mul] at hc; omega
    · exact e
  have hc0 : 0 < c := by
    rcases Nat.eq_zero_or_pos c with e | e
    · rw [e, Nat.mul_zero] at hc; omega
    · exact e
  have hc1 : c ≠ 1 := fun e => hdq (by rw [hc, e, Nat.mul_one])
  have hmd : q % d = 0 := by rw [hc]; exact Nat.mul_mod_right d c
  have hmc : q % c = 0 := by rw [hc]; exact Nat.mul_mod_left d c
  have a1 : f + 2 ≤ d := Nat.le_of_not_lt fun hlt => hn d (by omega) (by omega) hmd
  have a2 : f + 2 ≤ c := Nat.le_of_not_lt fun hlt => hn c (by omega) (by omega) hmc
  have := Nat.mul_le_mul a1 a2
  omega

theorem prm_coprime {q m : Nat} (hq : Prm q) (h : ¬ q ∣ m) : Nat.Coprime q m := by
  rcases hq.2 (Nat.gcd q m) (Nat.gcd_dvd_left q m) with e | e
  · exact e
  · exact absurd (e ▸ Nat.gcd_dvd_right q m) h

theorem prm_in : ∀ (l : List Nat), (∀ q, q ∈ l → Prm q) → ∀ m, 1 < m → m ∣ l.foldr (· * ·) 1 → ∃ q, q ∈ l ∧ q ∣ m
  | [], _, m, h1, h => by
    have : m = 1 := Nat.dvd_one.1 h
    omega
  | q :: l, hl, m, h1, h => by
    by_cases hq : q ∣ m
    · exact ⟨q, List.mem_cons_self .., hq⟩
    · have hc := prm_coprime (hl q (List.mem_cons_self ..)) hq
      obtain ⟨p, hp, hpm⟩ := prm_in l (fun p hp => hl p (List.mem_cons_of_mem _ hp)) m h1 (Nat.Coprime.dvd_of_dvd_mul_left hc.symm h)
      exact ⟨p, List.mem_cons_of_mem _ hp, hpm⟩

theorem one_mod {N : Nat} (h : 1 < N) : 1 % N = 1 := Nat.mod_eq_of_lt h

theorem pow_mul_one {N g a : Nat} (hN : 1 < N) (h : g ^ a % N = 1) (b : Nat) : g ^ (a * b) % N = 1 := by
  rw [Nat.pow_mul, Nat.pow_mod, h, Nat.one_pow, one_mod hN]

theorem pow_add_one {N g a : Nat} (h : g ^ a % N = 1) (b : Nat) : g ^ (a + b) % N = g ^ b % N := by
  rw [Nat.pow_add, Nat.mul_mod, h, Nat.one_mul, Nat.mod_mod]

theorem pow_gcd_one {N g : Nat} (hN : 1 < N) : ∀ (a b : Nat), g ^ a % N = 1 → g ^ b % N = 1 → g ^ (Nat.gcd a b) % N = 1 := by
  intro a
  induction a using Nat.strongRecOn with
  | _ a ih =>
    intro b ha hb
    by_cases h0 : a = 0
    · subst h0; rw [Nat.gcd_zero_left]; exact hb
    · rw [Nat.gcd_rec]
      refine ih (b % a) (Nat.mod_lt _ (by omega)) a ?_ ha
      have h1 := pow_mul_one hN ha (b / a)
      have h2 := pow_add_one h1 (b % a)
      rw [Nat.div_add_mod] at h2
      exact h2.symm.trans hb

/-- The order of g is N - 1: by the primes of N - 1. -/
theorem order_of (N g : Nat) (hN : 2 < N) (l : List Nat) (hl : ∀ q, q ∈ l → Prm q) (hf : l.foldr (· * ·) 1 = N - 1) (h1 : g ^ (N - 1) % N = 1)
    (hq : ∀ q, q ∈ l → g ^ ((N - 1) / q) % N ≠ 1) (i : Nat) (h0 : 0 < i) (hi : i < N - 1) : g ^ i % N ≠ 1 := by
  intro he
  have hd := pow_gcd_one (by omega) i (N - 1) he h1
  have hdi := Nat.gcd_dvd_left i (N - 1)
  obtain ⟨m, hm⟩ := Nat.gcd_dvd_right i (N - 1)
  have hle := Nat.le_of_dvd h0 hdi
  have hm1 : 1 < m := by
    refine Nat.lt_of_not_le fun hle1 => ?_
    have : m = 0 ∨ m = 1 := by omega
    rcases this with e | e
    · rw [e, Nat.mul_zero] at hm; omega
    · rw [e, Nat.mul_one] at hm; omega
  obtain ⟨q, hql, c, hc⟩ := prm_in l hl m hm1 (by rw [hf]; exact ⟨Nat.gcd i (N - 1), by rw [Nat.mul_comm]; exact hm⟩)
  have hq1 := (hl q hql).1
  refine hq q hql ?_
  have : (N - 1) / q = Nat.gcd i (N - 1) * c := by
    refine Nat.div_eq_of_eq_mul_right (by omega) ?_
    rw [← Nat.mul_assoc, Nat.mul_comm q, Nat.mul_assoc, ← hc]
    exact hm
  rw [this]
  exact pow_mul_one (by omega) hd c

/-- A root of full order: every number below N but 0 is a power of it. -/
theorem all_powers (N g : Nat) (hN : 2 < N) (h1 : g ^ (N - 1) % N = 1) (ho : ∀ i, 0 < i → i < N - 1 → g ^ i % N ≠ 1) (a : Nat) (h0 : 0 < a) (ha : a < N) :
    ∃ i, i < N - 1 ∧ g ^ i % N = a := by
  have hnz : ∀ i, i ≤ N - 1 → g ^ i % N ≠ 0 := by
    intro i hi he
    have : g ^ (N - 1) % N = 0 := by
      rw [show N - 1 = i + (N - 1 - i) by omega, Nat.pow_add, Nat.mul_mod, he, Nat.zero_mul, Nat.zero_mod]
    omega
  have hlt : ∀ i, g ^ i % N < N := fun i => Nat.mod_lt _ (by omega)
  have step : ∀ i j, i < j → j < N - 1 → g ^ i % N ≠ g ^ j % N := by
    intro i j hij hj he
    refine ho (j - i) (by omega) (by omega) ?_
    have e1 : g ^ (N - 1) % N = g ^ (j - i + (N - 1)) % N := by
      rw [show j - i + (N - 1) = j + (N - 1 - i) by omega, Nat.pow_add, Nat.mul_mod, ← he, ← Nat.mul_mod, ← Nat.pow_add]
      congr 2
      omega
    have e2 := pow_add_one h1 (j - i)
    rw [Nat.add_comm (N - 1)] at e2
    rw [← e2, ← e1]
    exact h1
  obtain ⟨i, hi, he⟩ := onto (N - 1) (fun i => g ^ i % N - 1)
    (fun i hi => by have := hnz i (by omega); have := hlt i; show g ^ i % N - 1 < N - 1; omega)
    (fun i j hi hj he => by
      have he : g ^ i % N - 1 = g ^ j % N - 1 := he
      have a1 := hnz i (by omega)
      have a2 := hnz j (by omega)
      have he : g ^ i % N = g ^ j % N := by omega
      rcases Nat.lt_trichotomy i j with h | h | h
      · exact absurd he (step i j h hj)
      · exact h
      · exact absurd he.symm (step j i h hi)) (a - 1) (by omega)
  have he : g ^ i % N - 1 = a - 1 := he
  have := hnz i (by omega)
  exact ⟨i, hi, by omega⟩

/-- What is known of a prime N with a root g of full order. -/
structure Root (N g : Nat) : Prop where
  big : 2 < N
  one : g ^ (N - 1) % N = 1
  ord : ∀ i, 0 < i → i < N - 1 → g ^ i % N ≠ 1

theorem Root.powers {N g : Nat} (h : Root N g) (a : Nat) (ha : a % N ≠ 0) : ∃ i, i < N - 1 ∧ g ^ i % N = a % N :=
  all_powers N g h.big h.one h.ord (a % N) (by omega) (Nat.mod_lt _ (by have := h.big; omega))

/-- Fermat. -/
theorem Root.fermat {N g : Nat} (h : Root N g) (a : Nat) (ha : a % N ≠ 0) : a ^ (N - 1) % N = 1 := by
  obtain ⟨i, _, he⟩ := h.powers a ha
  have hb := h.big
  rw [Nat.pow_mod, ← he, ← Nat.pow_mod, ← Nat.pow_mul, Nat.mul_comm]
  exact pow_mul_one (by omega) h.one i

theorem Root.nonzero {N g : Nat} (h : Root N g) {a b : Nat} (ha : a % N ≠ 0) (hb : b % N ≠ 0) : a * b % N ≠ 0 := by
  intro he
  have hN := h.big
  have := h.fermat a ha
  have h2 := h.fermat b hb
  have h3 : (a * b) ^ (N - 1) % N = 1 := by rw [Nat.mul_pow, Nat.mul_mod, this, h2, one_mod (by omega)]
  rw [Nat.pow_mod, he, Nat.zero_pow (by omega), Nat.zero_mod] at h3
  omega

/-- g to the i is 1 where N - 1 divides i alone. -/
theorem Root.dvd {N g : Nat} (h : Root N g) (i : Nat) (he : g ^ i % N = 1) : (N - 1) ∣ i := by
  have hN := h.big
  have h1 := pow_mul_one (by omega) h.one (i / (N - 1))
  have h2 := pow_add_one h1 (i % (N - 1))
  rw [Nat.div_add_mod, he] at h2
  refine Nat.dvd_of_mod_eq_zero ?_
  refine Classical.byContradiction fun hne => ?_
  exact h.ord (i % (N - 1)) (by omega) (Nat.mod_lt _ (by omega)) h2.symm

/-- Euler: what has power 1 to half of N - 1 is a square. -/
theorem Root.square {N g : Nat} (h : Root N g) (ho : (N - 1) % 2 = 0) (a : Nat) (ha : a % N ≠ 0) (he : a ^ ((N - 1) / 2) % N = 1) : ∃ x, x < N ∧ x * x % N = a % N := by
  have hN := h.big
  obtain ⟨i, _, hi⟩ := h.powers a ha
  have h1 : g ^ (i * ((N - 1) / 2)) % N = 1 := by rw [Nat.pow_mul, Nat.pow_mod, hi, ← Nat.pow_mod]; exact he
  obtain ⟨c, hc⟩ := h.dvd _ h1
  have h2 : i = 2 * c := by
    have e1 : N - 1 = (N - 1) / 2 * 2 := by omega
    have e2 : (N - 1) / 2 * i = (N - 1) / 2 * (2 * c) := by
      rw [Nat.mul_comm, hc, ← Nat.mul_assoc, ← e1]
    exact Nat.eq_of_mul_eq_mul_left (by omega) e2
  refine ⟨g ^ c % N, Nat.mod_lt _ (by omega), ?_⟩
  rw [← hi, h2, ← Nat.mul_mod, ← Nat.pow_add]
  congr 2
  omega

/-- A square has power 1 to half of N - 1. -/
theorem Root.euler {N g : Nat} (h : Root N g) (ho : (N - 1) % 2 = 0) (a x : Nat) (ha : a % N ≠ 0) (hx : x * x % N = a % N) : a ^ ((N - 1) / 2) % N = 1 := by
  have hx0 : x % N ≠ 0 := fun e => ha (by rw [← hx, Nat.mul_mod, e, Nat.zero_mul, Nat.zero_mod])
  rw [Nat.pow_mod, ← hx, ← Nat.pow_mod, ← Nat.pow_two, ← Nat.pow_mul, show 2 * ((N - 1) / 2) = N - 1 by omega]
  exact h.fermat x hx0

end Obol
