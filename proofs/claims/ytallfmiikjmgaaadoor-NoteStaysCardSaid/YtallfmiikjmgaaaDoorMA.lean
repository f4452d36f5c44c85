
/- Long division, a digit at a time: what the guess of a digit comes to. Y = yn1 B + yn0; u B + d is divided by Y. -/
namespace Obol

theorem guess_le {B Y u d yn1 yn0 : Nat} (hY : Y = yn1 * B + yn0) (h1 : 0 < yn1) (hd : d < B) : (u * B + d) / Y ≤ u / yn1 := by
  rw [Nat.le_div_iff_mul_le h1]
  have h2 : (u * B + d) / Y * Y ≤ u * B + d := Nat.div_mul_le_self _ _
  generalize (u * B + d) / Y = q at *
  rw [hY, Nat.mul_add, ← Nat.mul_assoc] at h2
  refine Nat.le_of_not_lt fun hlt => ?_
  have h3 : (u + 1) * B ≤ q * yn1 * B := Nat.mul_le_mul_right _ hlt
  rw [Nat.succ_mul] at h3
  have : 0 ≤ q * yn0 := Nat.zero_le _
  omega

theorem guess_big {B Y u d yn1 yn0 q r : Nat} (hY : Y = yn1 * B + yn0) (hYp : 0 < Y) (hq : q * yn1 + r = u) (h : B * r + d < q * yn0) : (u * B + d) / Y < q := by
  rw [Nat.div_lt_iff_lt_mul hYp, hY, Nat.mul_add, ← Nat.mul_assoc, ← hq, Nat.add_mul, Nat.mul_comm r B]
  omega

theorem guess_fits {B Y u d yn1 yn0 q r : Nat} (hY : Y = yn1 * B + yn0) (hYp : 0 < Y) (hq : q * yn1 + r = u) (h : q * yn0 ≤ B * r + d) : q ≤ (u * B + d) / Y := by
  rw [Nat.le_div_iff_mul_le hYp, hY, Nat.mul_add, ← Nat.mul_assoc, ← hq, Nat.add_mul, Nat.mul_comm r B]
  omega

theorem digit_lt {B Y u d : Nat} (hd : d < B) (hu : u < Y) : (u * B + d) / Y < B := by
  rw [Nat.div_lt_iff_lt_mul (by omega)]
  have : (u + 1) * B ≤ Y * B := Nat.mul_le_mul_right _ hu
  rw [Nat.succ_mul] at this
  rw [Nat.mul_comm B]
  omega

theorem guess_over {B d yn0 q r : Nat} (h0 : yn0 < B) (hq : q ≤ B) (hr : B ≤ r) : q * yn0 ≤ B * r + d := by
  have h1 : q * yn0 ≤ B * yn0 := Nat.mul_le_mul_right _ hq
  have h2 : B * yn0 ≤ B * r := Nat.mul_le_mul_left _ (by omega)
  omega

theorem guess_near {B Y u yn1 yn0 : Nat} (hY : Y = yn1 * B + yn0) (h0 : yn0 < B) (h2 : B ≤ 2 * yn1) (hu : u < Y) : u / yn1 ≤ B + 1 := by
  have h1 : 0 < yn1 := by omega
  refine Nat.le_of_lt_succ ?_
  rw [Nat.div_lt_iff_lt_mul h1, Nat.succ_mul, Nat.add_mul, Nat.one_mul, Nat.mul_comm B]
  omega

/-- The whole: two digits, one behind the other. -/
theorem two_digits {B Y u d1 d0 : Nat} :
    ((u * B + d1) % Y * B + d0) % Y = ((u * B + d1) * B + d0) % Y := by
  rw [Nat.add_mod, Nat.mul_mod, Nat.mod_mod, ← Nat.mul_mod, ← Nat.add_mod]

end Obol
/- The references' loops over bits: products by doubling, powers from the highest bit on. -/
namespace Obol

/-- What package modular reckons: names of their own, so that nothing looks inside. -/
def mulM (m a b : Nat) : Nat := a * b % m
def addM (m a b : Nat) : Nat := (a + b) % m
def subM (m a b : Nat) : Nat := (a % m + m - b % m) % m
def powM (m a e : Nat) : Nat := a ^ e % m

/-- A sum below m, by the subtraction that never goes round. -/
theorem add_mod_by {m a b : Nat} (ha : a < m) (hb : b < m) : (if m - b ≤ a then a - (m - b) else a + b) = (a + b) % m := by
  split
  · rename_i h
    rw [Nat.mod_eq_sub_mod (by omega), Nat.mod_eq_of_lt (by omega)]
    omega
  · rw [Nat.mod_eq_of_lt (by omega)]

theorem high_step (y i : Nat) (hi : i < 64) : y / 2 ^ (64 - (i + 1)) = 2 * (y / 2 ^ (64 - i)) + y / 2 ^ (63 - i) % 2 := by
  have e1 : 64 - (i + 1) = 63 - i := by omega
  have e2 : 64 - i = (63 - i) + 1 := by omega
  rw [e1, e2, Nat.pow_succ, ← Nat.div_div_eq_div_mul]
  omega

/-- A product's next step. -/
theorem mul_step (m x y i : Nat) (hi : i < 64) :
    ((y / 2 ^ (64 - i) * x % m + y / 2 ^ (64 - i) * x % m) % m + (if y / 2 ^ (63 - i) % 2 = 1 then x % m else 0)) % m = y / 2 ^ (64 - (i + 1)) * x % m := by
  rw [high_step y i hi]
  have hb : y / 2 ^ (63 - i) % 2 = 0 ∨ y / 2 ^ (63 - i) % 2 = 1 := by omega
  generalize y / 2 ^ (64 - i) = q at *
  rcases hb with e | e
  · rw [if_neg (by omega), e, Nat.add_zero, Nat.add_zero, Nat.mod_mod, ← Nat.add_mod, ← Nat.add_mul, Nat.two_mul]
  · rw [if_pos e, e, ← Nat.add_mod, Nat.add_mul, Nat.one_mul, Nat.mul_assoc, Nat.two_mul]
    rw [Nat.add_mod, ← Nat.add_mod (q * x) (q * x), ← Nat.add_mod]

/-- A power's next step. -/
theorem pow_step (m a e i : Nat) (hi : i < 64) :
    (if e / 2 ^ (63 - i) % 2 = 1 then (a ^ (e / 2 ^ (64 - i)) % m) * (a ^ (e / 2 ^ (64 - i)) % m) % m * a % m else (a ^ (e / 2 ^ (64 - i)) % m) * (a ^ (e / 2 ^ (64 - i)) % m) % m) =
      a ^ (e / 2 ^ (64 - (i + 1))) % m := by
  rw [high_step e i hi]
  have hb : e / 2 ^ (63 - i) % 2 = 0 ∨ e / 2 ^ (63 - i) % 2 = 1 := by omega
  generalize e / 2 ^ (64 - i) = q at *
  have hs : (a ^ q % m) * (a ^ q % m) % m = a ^ (2 * q) % m := by rw [← Nat.mul_mod, ← Nat.pow_add, Nat.two_mul]
  rw [hs]
  rcases hb with e | e
  · rw [if_neg (by omega), e, Nat.add_zero]
  · rw [if_pos e, e, Nat.mul_mod, Nat.mod_mod, ← Nat.mul_mod, ← Nat.pow_succ]

/-- Low bits first: what is gathered, times what is left. -/
theorem low_pow (m a e out : Nat) (_he : e ≠ 0) :
    (if e % 2 = 1 then out * a % m else out) * (a * a % m) ^ (e / 2) % m = out * a ^ e % m := by
  have h2 : (a * a) ^ (e / 2) = a ^ (2 * (e / 2)) := by rw [Nat.pow_mul, Nat.pow_two]
  rw [Nat.mul_mod, ← Nat.pow_mod, ← Nat.mul_mod, h2]
  split
  · rename_i h
    rw [Nat.mul_mod, Nat.mod_mod, ← Nat.mul_mod, Nat.mul_assoc, ← Nat.pow_succ']
    congr 3
    omega
  · congr 3
    omega

end Obol
/- Numbers: the pigeonhole, powers modulo a number, and that a number with a root of full order is a prime (Lucas). No program in sight. -/
namespace Obol

theorem pigeon : ∀ (m n : Nat) (f : Nat → Nat), (∀ i, i < n → f i < m) → (∀ i j, i < n → j < n → f i = f j → i = j) → n ≤ m
  | 0, n, f, hf, _ => by
    cases n with
    | zero => exact Nat.le_refl _
    | succ n => exact absurd (hf 0 (by omega)) (by omega)
  | m + 1, n, f, hf, hi => by
    cases n with
    | zero => omega
    | succ n =>
      have h := pigeon m n (fun i => if f i = m then f n else f i)
        (fun i hin => by
          show (if f i = m then f n else f i) < m
          have h1 := hf i (by omega)
          have h2 := hf n (by omega)
          split
          · rename_i he
            have : f n ≠ m := fun e => by
              have := hi i n (by omega) (by omega) (he.trans e.symm)
              omega
            omega
          · omega)
        (fun i j hin hjn he => by
          have he : (if f i = m then f n else f i) = (if f j = m then f n else f j) := he
          split at he
          · split at he
            · rename_i a b
              exact hi i j (by omega) (by omega) (a.trans b.symm)
            · have := hi n j (by omega) (by omega) he
              omega
          · split at he
            · have := hi i n (by omega) (by omega) he
              omega
            · exact hi i j (by omega) (by omega) he)
      omega

theorem onto (n : Nat) (f : Nat → Nat) (hf : ∀ i, i < n → f i < n) (hi : ∀ i j, i < n → j < n → f i = f j → i = j) (v : Nat) (hv : v < n) : ∃ i, i < n ∧ f i = v := by
  refine Classical.byContradiction fun hno => ?_
  have hno : ∀ i, i < n → f i ≠ v := fun i hin e => hno ⟨i, hin, e⟩
  have h := pigeon n (n + 1) (fun i => if i < n then f i else v)
    (fun i hin => by
      show (if i < n then f i else v) < n
      split
      · rename_i h; exact hf i h
      · exact hv)
    (fun i j hin hjn he => by
      have he : (if i < n then f i else v) = (if j < n then f j else v) := he
      split at he
      · split at he
        · rename_i a b; exact hi i j a b he
        · rename_i a b; exact absurd he (hno i a)
      · split at he
        · rename_i a b; exact absurd he.symm (hno j b)
        · omega)
  omega

/-! powers modulo a number -/
def powm (m : Nat) : Nat → Nat → Nat → Nat
  | 0, _, _ => 1 % m
  | f + 1, a, e => if e = 0 then 1 % m else if e % 2 = 1 then a * powm m f (a * a % m) (e / 2) % m else powm m f (a * a % m) (e / 2)

theorem powm_eq (m : Nat) : ∀ (f a e : Nat), e < 2 ^ f → powm m f a e = a ^ e % m
  | 0, a, e, h => by
    have : e = 0 := by simpa using h
    subst this
    rfl
  | f + 1, a, e, h => by
    have ih := powm_eq m f (a * a % m) (e / 2) (by rw [Nat.pow_succ] at h; omega)
    have hsq : (a * a % m) ^ (e / 2) % m = a ^ (2 * (e / 2)) % m := by
      rw [← Nat.pow_mod, Nat.pow_mul, Nat.pow_two]
    unfold powm
    by_cases h0 : e = 0
    · rw [if_pos h0, h0, Nat.pow_zero]
    · rw [if_neg h0, ih, hsq]
      by_cases h1 : e % 2 = 1
      · rw [if_pos h1, Nat.mul_mod, Nat.mod_mod, ← Nat.mul_mod, Nat.mul_comm, ← Nat.pow_succ]
        congr 2
        omega
      · rw [if_neg h1]
        congr 2
        omega

/-- No number from k on, below k + f, divides q. -/
def none : Nat → Nat → Nat → Bool
  | 0, _, _ => true
  | f + 1, k, q => q % k != 0 && none f (k + 1) q

theorem none_spec : ∀ (f k q : Nat), none f k q = true → ∀ d, k ≤ d → d < k + f → q % d ≠ 0
  | 0, k, q, _, d, h1, h2 => by omega
  | f + 1, k, q, h, d, h1, h2 => by
    unfold none at h
    simp only [Bool.and_eq_true, bne_iff_ne, ne_eq] at h
    by_cases e : d = k
    · rw [e]; exact h.1
    · exact none_spec f (k + 1) q h.2 d (by omega) (by omega)

/-- A number whose divisors are 1 and it. -/
def Prm (q : Nat) : Prop := 1 < q ∧ ∀ d, d ∣ q → d = 1 ∨ d = q

theorem prm_of (f q : Nat) (h1 : 1 < q) (h : none f 2 q = true) (hs : q < (f + 2) * (f + 2)) : Prm q := by
  refine ⟨h1, fun d hd => ?_⟩
  obtain ⟨c, hc⟩ := hd
  have hn := none_spec f 2 q h
  by_cases hd1 : d = 1
  · exact .inl hd1
  by_cases hdq : d = q
  · exact .inr hdq
  exfalso
  have hd0 : 0 < d := by
    rcases Nat.eq_zero_or_pos d with e | e
    · rw [e, Nat.zero_mul] at hc; omega
    · exact e
  have hc0 : 0 < c := by
    rcases Nat.eq_zero_or_pos c with e | e
    · rw [e, Nat.mul_zero] at hc; omega
    · exact e
  have hc1 : c ≠ 1 := fun e => hdq (by rw [hc, e, Nat.mul_one])
  have hmd : q % d = 0 := by rw [hc]; exact Nat.mul_mod_right d c
  have hmc : q % c = 0 := by rw [hc]; exact Nat.mul_mod_left d c
  have a1 : f + 2 ≤ d := Nat.le_of_not_lt fun hlt => hn d (by omega) (by omega) hmd
  have a2 : f + 2 ≤ c := Nat.le_of_not_lt fun hlt => hn c (by omega) (by omega) hmc
  have := Nat.mul_le_mul a1 a2
  omega

theorem prm_coprime {q m : Nat} (hq : Prm q) (h : ¬ q ∣ m) : Nat.Coprime q m := by
  rcases hq.2 (Nat.gcd q m) (Nat.gcd_dvd_left q m) with e | e
  · exact e
  · exact absurd (e ▸ Nat.gcd_dvd_right q m) h

theorem prm_in : ∀ (l : List Nat), (∀ q, q ∈ l → Prm q) → ∀ m, 1 < m → m ∣ l.foldr (· * ·) 1 → ∃ q, q ∈ l ∧ q ∣ m
  | [], _, m, h1, h => by
    have : m = 1 := Nat.dvd_one.1 h
    omega
  | q :: l, hl, m, h1, h => by
    by_cases hq : q ∣ m
    · exact ⟨q, List.mem_cons_self .., hq⟩
    · have hc := prm_coprime (hl q (List.mem_cons_self ..)) hq
      obtain ⟨p, hp, hpm⟩ := prm_in l (fun p hp => hl p (List.mem_cons_of_mem _ hp)) m h1 (Nat.Coprime.dvd_of_dvd_mul_left hc.symm h)
      exact ⟨p, List.mem_cons_of_mem _ hp, hpm⟩

theorem one_mod {N : Nat} (h : 1 < N) : 1 % N = 1 := Nat.mod_eq_of_lt h

theorem pow_mul_one {N g a : Nat} (hN : 1 < N) (h : g ^ a % N = 1) (b : Nat) : g ^ (a * b) % N = 1 := by
  rw [Nat.pow_mul, Nat.pow_mod, h, Nat.one_pow, one_mod hN]

theorem pow_add_one {N g a : Nat} (h : g ^ a % N = 1) (b : Nat) : g ^ (a + b) % N = g ^ b % N := by
  rw [Nat.pow_add, Nat.mul_mod, h, Nat.one_mul, Nat.mod_mod]

theorem pow_gcd_one {N g : Nat} (hN : 1 < N) : ∀ (a b : Nat), g ^ a % N = 1 → g ^ b % N = 1 → g ^ (Nat.gcd a b) % N = 1 := by
  intro a
  induction a using Nat.strongRecOn with
  | _ a ih =>
    intro b ha hb
    by_cases h0 : a = 0
    · subst h0; rw [Nat.gcd_zero_left]; exact hb
    · rw [Nat.gcd_rec]
      refine ih (b % a) (Nat.mod_lt _ (by omega)) a ?_ ha
      have h1 := pow_mul_one hN ha (b / a)
      have h2 := pow_add_one h1 (b % a)
      rw [Nat.div_add_mod] at h2
      exact h2.symm.trans hb

/-- The order of g is N - 1: by the primes of N - 1. -/
theorem order_of (N g : Nat) (hN : 2 < N) (l : List Nat) (hl : ∀ q, q ∈ l → Prm q) (hf : l.foldr (· * ·) 1 = N - 1) (h1 : g ^ (N - 1) % N = 1)
    (hq : ∀ q, q ∈ l → g ^ ((N - 1) / q) % N ≠ 1) (i : Nat) (h0 : 0 < i) (hi : i < N - 1) : g ^ i % N ≠ 1 := by
  intro he
  have hd := pow_gcd_one (by omega) i (N - 1) he h1
  have hdi := Nat.gcd_dvd_left i (N - 1)
  obtain ⟨m, hm⟩ := Nat.gcd_dvd_right i (N - 1)
  have hle := Nat.le_of_dvd h0 hdi
  have hm1 : 1 < m := by
    refine Nat.lt_of_not_le fun hle1 => ?_
    have : m = 0 ∨ m = 1 := by omega
    rcases this with e | e
    · rw [e, Nat.mul_zero] at hm; omega
    · rw [e, Nat.mul_one] at hm; omega
  obtain ⟨q, hql, c, hc⟩ := prm_in l hl m hm1 (by rw [hf]; exact ⟨Nat.gcd i (N - 1), by rw [Nat.mul_comm]; exact hm⟩)
  have hq1 := (hl q hql).1
  refine hq q hql ?_
  have : (N - 1) / q = Nat.gcd i (N - 1) * c := by
    refine Nat.div_eq_of_eq_mul_right (by omega) ?_
    rw [← Nat.mul_assoc, Nat.mul_comm q, Nat.mul_assoc, ← hc]
    exact hm
  rw [this]
  exact pow_mul_one (by omega) hd c

/-- A root of full order: every number below N but 0 is a power of it. -/
theorem all_powers (N g : Nat) (hN : 2 < N) (h1 : g ^ (N - 1) % N = 1) (ho : ∀ i, 0 < i → i < N - 1 → g ^ i % N ≠ 1) (a : Nat) (h0 : 0 < a) (ha : a < N) :
    ∃ i, i < N - 1 ∧ g ^ i % N = a := by
  have hnz : ∀ i, i ≤ N - 1 → g ^ i % N ≠ 0 := by
    intro i hi he
    have : g ^ (N - 1) % N = 0 := by
      rw [show N - 1 = i + (N - 1 - i) by omega, Nat.pow_add, Nat.mul_mod, he, Nat.zero_mul, Nat.zero_mod]
    omega
  have hlt : ∀ i, g ^ i % N < N := fun i => Nat.mod_lt _ (by omega)
  have step : ∀ i j, i < j → j < N - 1 → g ^ i % N ≠ g ^ j % N := by
    intro i j hij hj he
    refine ho (j - i) (by omega) (by omega) ?_
    have e1 : g ^ (N - 1) % N = g ^ (j - i + (N - 1)) % N := by
      rw [show j - i + (N - 1) = j + (N - 1 - i) by omega, Nat.pow_add, Nat.mul_mod, ← he, ← Nat.mul_mod, ← Nat.pow_add]
      congr 2
      omega
    have e2 := pow_add_one h1 (j - i)
    rw [Nat.add_comm (N - 1)] at e2
    rw [← e2, ← e1]
    exact h1
  obtain ⟨i, hi, he⟩ := onto (N - 1) (fun i => g ^ i % N - 1)
    (fun i hi => by have := hnz i (by omega); have := hlt i; show g ^ i % N - 1 < N - 1; omega)
    (fun i j hi hj he => by
      have he : g ^ i % N - 1 = g ^ j % N - 1 := he
      have a1 := hnz i (by omega)
      have a2 := hnz j (by omega)
      have he : g ^ i % N = g ^ j % N := by omega
      rcases Nat.lt_trichotomy i j with h | h | h
      · exact absurd he (step i j h hj)
      · exact h
      · exact absurd he.symm (step j i h hi)) (a - 1) (by omega)
  have he : g ^ i % N - 1 = a - 1 := he
  have := hnz i (by omega)
  exact ⟨i, hi, by omega⟩

/-- What is known of a prime N with a root g of full order. -/
structure Root (N g : Nat) : Prop where
  big : 2 < N
  one : g ^ (N - 1) % N = 1
  ord : ∀ i, 0 < i → i < N - 1 → g ^ i % N ≠ 1

theorem Root.powers {N g : Nat} (h : Root N g) (a : Nat) (ha : a % N ≠ 0) : ∃ i, i < N - 1 ∧ g ^ i % N = a % N :=
  all_powers N g h.big h.one h.ord (a % N) (by omega) (Nat.mod_lt _ (by have := h.big; omega))

/-- Fermat. -/
theorem Root.fermat {N g : Nat} (h : Root N g) (a : Nat) (ha : a % N ≠ 0) : a ^ (N - 1) % N = 1 := by
  obtain ⟨i, _, he⟩ := h.powers a ha
  have hb := h.big
  rw [Nat.pow_mod, ← he, ← Nat.pow_mod, ← Nat.pow_mul, Nat.mul_comm]
  exact pow_mul_one (by omega) h.one i

theorem Root.nonzero {N g : Nat} (h : Root N g) {a b : Nat} (ha : a % N ≠ 0) (hb : b % N ≠ 0) : a * b % N ≠ 0 := by
  intro he
  have hN := h.big
  have := h.fermat a ha
  have h2 := h.fermat b hb
  have h3 : (a * b) ^ (N - 1) % N = 1 := by rw [Nat.mul_pow, Nat.mul_mod, this, h2, one_mod (by omega)]
  rw [Nat.pow_mod, he, Nat.zero_pow (by omega), Nat.zero_mod] at h3
  omega

/-- g to the i is 1 where N - 1 divides i alone. -/
theorem Root.dvd {N g : Nat} (h : Root N g) (i : Nat) (he : g ^ i % N = 1) : (N - 1) ∣ i := by
  have hN := h.big
  have h1 := pow_mul_one (by omega) h.one (i / (N - 1))
  have h2 := pow_add_one h1 (i % (N - 1))
  rw [Nat.div_add_mod, he] at h2
  refine Nat.dvd_of_mod_eq_zero ?_
  refine Classical.byContradiction fun hne => ?_
  exact h.ord (i % (N - 1)) (by omega) (Nat.mod_lt _ (by omega)) h2.symm

/-- Euler: what has power 1 to half of N - 1 is a square. -/
theorem Root.square {N g : Nat} (h : Root N g) (ho : (N - 1) % 2 = 0) (a : Nat) (ha : a % N ≠ 0) (he : a ^ ((N - 1) / 2) % N = 1) : ∃ x, x < N ∧ x * x % N = a % N := by
  have hN := h.big
  obtain ⟨i, _, hi⟩ := h.powers a ha
  have h1 : g ^ (i * ((N - 1) / 2)) % N = 1 := by rw [Nat.pow_mul, Nat.pow_mod, hi, ← Nat.pow_mod]; exact he
  obtain ⟨c, hc⟩ := h.dvd _ h1
  have h2 : i = 2 * c := by
    have e1 : N - 1 = (N - 1) / 2 * 2 := by omega
    have e2 : (N - 1) / 2 * i = (N - 1) / 2 * (2 * c) := by
      rw [Nat.mul_comm, hc, ← Nat.mul_assoc, ← e1]
    exact Nat.eq_of_mul_eq_mul_left (by omega) e2
  refine ⟨g ^ c % N, Nat.mod_lt _ (by omega), ?_⟩
  rw [← hi, h2, ← Nat.mul_mod, ← Nat.pow_add]
  congr 2
  omega

/-- A square has power 1 to half of N - 1. -/
theorem Root.euler {N g : Nat} (h : Root N g) (ho : (N - 1) % 2 = 0) (a x : Nat) (ha : a % N ≠ 0) (hx : x * x % N = a % N) : a ^ ((N - 1) / 2) % N = 1 := by
  have hx0 : x % N ≠ 0 := fun e => ha (by rw [← hx, Nat.mul_mod, e, Nat.zero_mul, Nat.zero_mod])
  rw [Nat.pow_mod, ← hx, ← Nat.pow_mod, ← Nat.pow_two, ← Nat.pow_mul, show 2 * ((N - 1) / 2) = N - 1 by omega]
  exact h.fermat x hx0

end Obol
/- The three primes, each with a root of full order: by the primes of what is one less. -/
namespace Obol

def R : Nat := 288230376287764481
def S : Nat := 72057593894066549
def P : Nat := 1152921505151057923

theorem R_def : R = 288230376287764481 := rfl
theorem S_def : S = 72057593894066549 := rfl
theorem P_def : P = 1152921505151057923 := rfl

theorem prm_list {l : List (Nat × Nat)} (h : l.all (fun x => decide (1 < x.1) && none x.2 2 x.1 && decide (x.1 < (x.2 + 2) * (x.2 + 2))) = true) :
    ∀ q, q ∈ l.map (·.1) → Prm q := by
  intro q hq
  obtain ⟨x, hx, rfl⟩ := List.mem_map.1 hq
  have := List.all_eq_true.1 h x hx
  simp only [Bool.and_eq_true, decide_eq_true_eq] at this
  exact prm_of x.2 x.1 this.1.1 this.1.2 this.2

theorem root_of (N g : Nat) (l : List (Nat × Nat)) (hN : 2 < N) (hl : N - 1 < 2 ^ 62)
    (h : l.all (fun x => decide (1 < x.1) && none x.2 2 x.1 && decide (x.1 < (x.2 + 2) * (x.2 + 2))) = true)
    (hf : (l.map (·.1)).foldr (· * ·) 1 = N - 1) (h1 : powm N 62 g (N - 1) = 1)
    (hq : l.all (fun x => powm N 62 g ((N - 1) / x.1) != 1) = true) : Root N g := by
  have e1 : g ^ (N - 1) % N = 1 := by rw [← powm_eq N 62 g (N - 1) hl]; exact h1
  refine ⟨hN, e1, order_of N g hN (l.map (·.1)) (prm_list h) hf e1 ?_⟩
  intro q hq'
  obtain ⟨x, hx, rfl⟩ := List.mem_map.1 hq'
  have := List.all_eq_true.1 hq x hx
  simp only [bne_iff_ne, ne_eq] at this
  rw [powm_eq N 62 g ((N - 1) / x.1) (Nat.lt_of_le_of_lt (Nat.div_le_self _ _) hl)] at this
  exact this

theorem rootR : Root R 3 := root_of R 3 ((List.replicate 18 (2, 0)) ++ [(5, 1), (587, 23), (619, 23), (769, 26), (787, 27)]) (by decide +kernel) (by decide +kernel) (by decide +kernel) (by decide +kernel) (by decide +kernel) (by decide +kernel)
theorem rootS : Root S 2 := root_of S 2 [(2, 0), (2, 0), (67, 7), (317, 16), (57251, 238), (14815033, 3848)] (by decide +kernel) (by decide +kernel) (by decide +kernel) (by decide +kernel) (by decide +kernel) (by decide +kernel)
theorem rootP : Root P 2 := root_of P 2 [(2, 0), (3, 0), (3, 0), (7, 1), (1879, 42), (1368181, 1168), (3559253, 1885)] (by decide +kernel) (by decide +kernel) (by decide +kernel) (by decide +kernel) (by decide +kernel) (by decide +kernel)

end Obol
/- The Edwards curve -x x + y y = 1 + d x x y y over a field in which -1 is a square and d is none: its points are a group. No program in sight. -/
namespace Obol

theorem assoc_x {ell : Nat} [NeZero ell] {x1 y1 x2 y2 x3 y3 d N M A B N2 M2 A2 B2 : Fin ell} (hN : N = x1*y2 + y1*x2) (hM : M = y1*y2 + x1*x2) (hA : A = 1 + d*x1*y1*x2*y2) (hB : B = 1 - d*x1*y1*x2*y2)
    (hN2 : N2 = x2*y3 + y2*x3) (hM2 : M2 = y2*y3 + x2*x3) (hA2 : A2 = 1 + d*x2*y2*x3*y3) (hB2 : B2 = 1 - d*x2*y2*x3*y3)
    (h1 : d*x1*x1*y1*y1 + 1 + x1*x1 - y1*y1 = 0) (h2 : d*x2*x2*y2*y2 + 1 + x2*x2 - y2*y2 = 0) (h3 : d*x3*x3*y3*y3 + 1 + x3*x3 - y3*y3 = 0) :
    (N*B*y3 + M*A*x3)*(A2*B2 + d*x1*y1*N2*M2) - (x1*M2*A2 + y1*N2*B2)*(A*B + d*x3*y3*N*M) = 0 := by
  have e : (N*B*y3 + M*A*x3)*(A2*B2 + d*x1*y1*N2*M2) - (x1*M2*A2 + y1*N2*B2)*(A*B + d*x3*y3*N*M) =
      (x1*x2*x2*x2*x2*y2*y2*y2*x3*x3*y3*d*d + x1*x2*x2*x2*x2*y2*x3*x3*y3*d + x1*x2*x2*x2*y2*y2*y2*y2*x3*y3*y3*d*d + x1*x2*x2*x2*y2*y2*x3*x3*x3*d + x1*x2*x2*x2*y2*y2*x3*d - x1*x2*x2*y2*y2*y2*y3*y3*y3*d + x1*x2*x2*y2*y2*y2*y3*d - x1*x2*y2*y2*y2*y2*x3*y3*y3*d - y1*x2*x2*x2*x2*y2*y2*y2*x3*y3*y3*d*d - y1*x2*x2*x2*x2*y2*x3*y3*y3*d - y1*x2*x2*x2*y2*y2*y2*y2*x3*x3*y3*d*d - y1*x2*x2*x2*y2*y2*y3*y3*y3*d + y1*x2*x2*x2*y2*y2*y3*d + y1*x2*x2*y2*y2*y2*x3*x3*x3*d + y1*x2*x2*y2*y2*y2*x3*d + y1*x2*y2*y2*y2*y2*x3*x3*y3*d) * (d*x1*x1*y1*y1 + 1 + x1*x1 - y1*y1) +
      (-x1*x1*x1*x2*x2*y2*x3*x3*y3*d - x1*x1*x1*x2*y2*y2*x3*y3*y3*d - x1*x1*x1*x2*x3*x3*x3*y3*y3*d - x1*x1*x1*x2*x3*x3*x3 + x1*x1*x1*x2*x3*y3*y3 - x1*x1*x1*x2*x3 - x1*x1*x1*y2*x3*x3*y3*y3*y3*d - x1*x1*x1*y2*x3*x3*y3 + x1*x1*x1*y2*y3*y3*y3 - x1*x1*x1*y2*y3 - x1*x1*y1*x2*x2*y2*x3*x3*x3*y3*y3*d*d + x1*x1*y1*x2*x2*y2*x3*y3*y3*d + x1*x1*y1*x2*y2*y2*x3*x3*y3*y3*y3*d*d + x1*x1*y1*x2*y2*y2*x3*x3*y3*d - x1*x1*y1*x2*x3*x3*y3*y3*y3*d - x1*x1*y1*x2*x3*x3*y3 + x1*x1*y1*x2*y3*y3*y3 - x1*x1*y1*x2*y3 - x1*x1*y1*y2*x3*x3*x3*y3*y3*d - x1*x1*y1*y2*x3*x3*x3 + x1*x1*y1*y2*x3*y3*y3 - x1*x1*y1*y2*x3 + x1*y1*y1*x2*x2*y2*x3*x3*y3*y3*y3*d*d + x1*y1*y1*x2*x2*y2*x3*x3*y3*d - x1*y1*y1*x2*y2*y2*x3*x3*x3*y3*y3*d*d + x1*y1*y1*x2*y2*y2*x3*y3*y3*d + x1*y1*y1*x2*x3*x3*x3*y3*y3*d + x1*y1*y1*x2*x3*x3*x3 - x1*y1*y1*x2*x3*y3*y3 + x1*y1*y1*x2*x3 + x1*y1*y1*y2*x3*x3*y3*y3*y3*d + x1*y1*y1*y2*x3*x3*y3 - x1*y1*y1*y2*y3*y3*y3 + x1*y1*y1*y2*y3 - x1*x2*x2*y2*x3*x3*y3*d - x1*x2*y2*y2*x3*y3*y3*d - x1*x2*x3*x3*x3*y3*y3*d - x1*x2*x3*x3*x3 + x1*x2*x3*y3*y3 - x1*x2*x3 - x1*y2*x3*x3*y3*y3*y3*d - x1*y2*x3*x3*y3 + x1*y2*y3*y3*y3 - x1*y2*y3 - y1*y1*y1*x2*x2*y2*x3*y3*y3*d - y1*y1*y1*x2*y2*y2*x3*x3*y3*d + y1*y1*y1*x2*x3*x3*y3*y3*y3*d + y1*y1*y1*x2*x3*x3*y3 - y1*y1*y1*x2*y3*y3*y3 + y1*y1*y1*x2*y3 + y1*y1*y1*y2*x3*x3*x3*y3*y3*d + y1*y1*y1*y2*x3*x3*x3 - y1*y1*y1*y2*x3*y3*y3 + y1*y1*y1*y2*x3 + y1*x2*x2*y2*x3*y3*y3*d + y1*x2*y2*y2*x3*x3*y3*d - y1*x2*x3*x3*y3*y3*y3*d - y1*x2*x3*x3*y3 + y1*x2*y3*y3*y3 - y1*x2*y3 - y1*y2*x3*x3*x3*y3*y3*d - y1*y2*x3*x3*x3 + y1*y2*x3*y3*y3 - y1*y2*x3) * (d*x2*x2*y2*y2 + 1 + x2*x2 - y2*y2) +
      (x1*x1*x1*x2*x2*x2*x3 + x1*x1*x1*x2*x2*y2*y3 - x1*x1*x1*x2*y2*y2*x3 + x1*x1*x1*x2*x3 - x1*x1*x1*y2*y2*y2*y3 + x1*x1*x1*y2*y3 + x1*x1*y1*x2*x2*x2*y3 + x1*x1*y1*x2*x2*y2*x3*d + x1*x1*y1*x2*x2*y2*x3 - x1*x1*y1*x2*y2*y2*y3*d - x1*x1*y1*x2*y2*y2*y3 + x1*x1*y1*x2*y3 - x1*x1*y1*y2*y2*y2*x3 + x1*x1*y1*y2*x3 - x1*y1*y1*x2*x2*x2*x3 - x1*y1*y1*x2*x2*y2*y3*d - x1*y1*y1*x2*x2*y2*y3 + x1*y1*y1*x2*y2*y2*x3*d + x1*y1*y1*x2*y2*y2*x3 - x1*y1*y1*x2*x3 + x1*y1*y1*y2*y2*y2*y3 - x1*y1*y1*y2*y3 + x1*x2*x2*x2*x3 + x1*x2*x2*y2*y3 - x1*x2*y2*y2*x3 + x1*x2*x3 - x1*y2*y2*y2*y3 + x1*y2*y3 - y1*y1*y1*x2*x2*x2*y3 - y1*y1*y1*x2*x2*y2*x3 + y1*y1*y1*x2*y2*y2*y3 - y1*y1*y1*x2*y3 + y1*y1*y1*y2*y2*y2*x3 - y1*y1*y1*y2*x3 + y1*x2*x2*x2*y3 + y1*x2*x2*y2*x3 - y1*x2*y2*y2*y3 + y1*x2*y3 - y1*y2*y2*y2*x3 + y1*y2*x3) * (d*x3*x3*y3*y3 + 1 + x3*x3 - y3*y3) := by
    subst hN hM hA hB hN2 hM2 hA2 hB2
    clear h1 h2 h3
    grind
  rw [e, h1, h2, h3]
  grind

theorem assoc_y {ell : Nat} [NeZero ell] {x1 y1 x2 y2 x3 y3 d N M A B N2 M2 A2 B2 : Fin ell} (hN : N = x1*y2 + y1*x2) (hM : M = y1*y2 + x1*x2) (hA : A = 1 + d*x1*y1*x2*y2) (hB : B = 1 - d*x1*y1*x2*y2)
    (hN2 : N2 = x2*y3 + y2*x3) (hM2 : M2 = y2*y3 + x2*x3) (hA2 : A2 = 1 + d*x2*y2*x3*y3) (hB2 : B2 = 1 - d*x2*y2*x3*y3)
    (h1 : d*x1*x1*y1*y1 + 1 + x1*x1 - y1*y1 = 0) (h2 : d*x2*x2*y2*y2 + 1 + x2*x2 - y2*y2 = 0) (h3 : d*x3*x3*y3*y3 + 1 + x3*x3 - y3*y3 = 0) :
    (M*A*y3 + N*B*x3)*(A2*B2 - d*x1*y1*N2*M2) - (y1*M2*A2 + x1*N2*B2)*(A*B - d*x3*y3*N*M) = 0 := by
  have e : (M*A*y3 + N*B*x3)*(A2*B2 - d*x1*y1*N2*M2) - (y1*M2*A2 + x1*N2*B2)*(A*B - d*x3*y3*N*M) =
      (-x1*x2*x2*x2*x2*y2*y2*y2*x3*y3*y3*d*d - x1*x2*x2*x2*x2*y2*x3*y3*y3*d - x1*x2*x2*x2*y2*y2*y2*y2*x3*x3*y3*d*d - x1*x2*x2*x2*y2*y2*y3*y3*y3*d + x1*x2*x2*x2*y2*y2*y3*d + x1*x2*x2*y2*y2*y2*x3*x3*x3*d + x1*x2*x2*y2*y2*y2*x3*d + x1*x2*y2*y2*y2*y2*x3*x3*y3*d + y1*x2*x2*x2*x2*y2*y2*y2*x3*x3*y3*d*d + y1*x2*x2*x2*x2*y2*x3*x3*y3*d + y1*x2*x2*x2*y2*y2*y2*y2*x3*y3*y3*d*d + y1*x2*x2*x2*y2*y2*x3*x3*x3*d + y1*x2*x2*x2*y2*y2*x3*d - y1*x2*x2*y2*y2*y2*y3*y3*y3*d + y1*x2*x2*y2*y2*y2*y3*d - y1*x2*y2*y2*y2*y2*x3*y3*y3*d) * (d*x1*x1*y1*y1 + 1 + x1*x1 - y1*y1) +
      (x1*x1*x1*x2*x2*y2*x3*y3*y3*d + x1*x1*x1*x2*y2*y2*x3*x3*y3*d - x1*x1*x1*x2*x3*x3*y3*y3*y3*d - x1*x1*x1*x2*x3*x3*y3 + x1*x1*x1*x2*y3*y3*y3 - x1*x1*x1*x2*y3 - x1*x1*x1*y2*x3*x3*x3*y3*y3*d - x1*x1*x1*y2*x3*x3*x3 + x1*x1*x1*y2*x3*y3*y3 - x1*x1*x1*y2*x3 - x1*x1*y1*x2*x2*y2*x3*x3*y3*y3*y3*d*d - x1*x1*y1*x2*x2*y2*x3*x3*y3*d + x1*x1*y1*x2*y2*y2*x3*x3*x3*y3*y3*d*d - x1*x1*y1*x2*y2*y2*x3*y3*y3*d - x1*x1*y1*x2*x3*x3*x3*y3*y3*d - x1*x1*y1*x2*x3*x3*x3 + x1*x1*y1*x2*x3*y3*y3 - x1*x1*y1*x2*x3 - x1*x1*y1*y2*x3*x3*y3*y3*y3*d - x1*x1*y1*y2*x3*x3*y3 + x1*x1*y1*y2*y3*y3*y3 - x1*x1*y1*y2*y3 + x1*y1*y1*x2*x2*y2*x3*x3*x3*y3*y3*d*d - x1*y1*y1*x2*x2*y2*x3*y3*y3*d - x1*y1*y1*x2*y2*y2*x3*x3*y3*y3*y3*d*d - x1*y1*y1*x2*y2*y2*x3*x3*y3*d + x1*y1*y1*x2*x3*x3*y3*y3*y3*d + x1*y1*y1*x2*x3*x3*y3 - x1*y1*y1*x2*y3*y3*y3 + x1*y1*y1*x2*y3 + x1*y1*y1*y2*x3*x3*x3*y3*y3*d + x1*y1*y1*y2*x3*x3*x3 - x1*y1*y1*y2*x3*y3*y3 + x1*y1*y1*y2*x3 + x1*x2*x2*y2*x3*y3*y3*d + x1*x2*y2*y2*x3*x3*y3*d - x1*x2*x3*x3*y3*y3*y3*d - x1*x2*x3*x3*y3 + x1*x2*y3*y3*y3 - x1*x2*y3 - x1*y2*x3*x3*x3*y3*y3*d - x1*y2*x3*x3*x3 + x1*y2*x3*y3*y3 - x1*y2*x3 + y1*y1*y1*x2*x2*y2*x3*x3*y3*d + y1*y1*y1*x2*y2*y2*x3*y3*y3*d + y1*y1*y1*x2*x3*x3*x3*y3*y3*d + y1*y1*y1*x2*x3*x3*x3 - y1*y1*y1*x2*x3*y3*y3 + y1*y1*y1*x2*x3 + y1*y1*y1*y2*x3*x3*y3*y3*y3*d + y1*y1*y1*y2*x3*x3*y3 - y1*y1*y1*y2*y3*y3*y3 + y1*y1*y1*y2*y3 - y1*x2*x2*y2*x3*x3*y3*d - y1*x2*y2*y2*x3*y3*y3*d - y1*x2*x3*x3*x3*y3*y3*d - y1*x2*x3*x3*x3 + y1*x2*x3*y3*y3 - y1*x2*x3 - y1*y2*x3*x3*y3*y3*y3*d - y1*y2*x3*x3*y3 + y1*y2*y3*y3*y3 - y1*y2*y3) * (d*x2*x2*y2*y2 + 1 + x2*x2 - y2*y2) +
      (x1*x1*x1*x2*x2*x2*y3 + x1*x1*x1*x2*x2*y2*x3 - x1*x1*x1*x2*y2*y2*y3 + x1*x1*x1*x2*y3 - x1*x1*x1*y2*y2*y2*x3 + x1*x1*x1*y2*x3 + x1*x1*y1*x2*x2*x2*x3 + x1*x1*y1*x2*x2*y2*y3*d + x1*x1*y1*x2*x2*y2*y3 - x1*x1*y1*x2*y2*y2*x3*d - x1*x1*y1*x2*y2*y2*x3 + x1*x1*y1*x2*x3 - x1*x1*y1*y2*y2*y2*y3 + x1*x1*y1*y2*y3 - x1*y1*y1*x2*x2*x2*y3 - x1*y1*y1*x2*x2*y2*x3*d - x1*y1*y1*x2*x2*y2*x3 + x1*y1*y1*x2*y2*y2*y3*d + x1*y1*y1*x2*y2*y2*y3 - x1*y1*y1*x2*y3 + x1*y1*y1*y2*y2*y2*x3 - x1*y1*y1*y2*x3 + x1*x2*x2*x2*y3 + x1*x2*x2*y2*x3 - x1*x2*y2*y2*y3 + x1*x2*y3 - x1*y2*y2*y2*x3 + x1*y2*x3 - y1*y1*y1*x2*x2*x2*x3 - y1*y1*y1*x2*x2*y2*y3 + y1*y1*y1*x2*y2*y2*x3 - y1*y1*y1*x2*x3 + y1*y1*y1*y2*y2*y2*y3 - y1*y1*y1*y2*y3 + y1*x2*x2*x2*x3 + y1*x2*x2*y2*y3 - y1*x2*y2*y2*x3 + y1*x2*x3 - y1*y2*y2*y2*y3 + y1*y2*y3) * (d*x3*x3*y3*y3 + 1 + x3*x3 - y3*y3) := by
    subst hN hM hA hB hN2 hM2 hA2 hB2
    clear h1 h2 h3
    grind
  rw [e, h1, h2, h3]
  grind

structure Ground (ell : Nat) [NeZero ell] where
  inv : Fin ell → Fin ell
  d : Fin ell
  i : Fin ell
  ne : (1 : Fin ell) ≠ 0
  two : (2 : Fin ell) ≠ 0
  dom : ∀ a b : Fin ell, a * b = 0 → a = 0 ∨ b = 0
  inv_mul : ∀ a : Fin ell, a ≠ 0 → a * inv a = 1
  i2 : i * i = -1
  nd : ∀ x : Fin ell, x * x ≠ d

section
variable {ell : Nat} [NeZero ell]

theorem Ground.cancel (k : Ground ell) {a b c : Fin ell} (ha : a ≠ 0) (h : a * b = a * c) : b = c := by
  have h1 : a * (b - c) = 0 := by grind
  rcases k.dom _ _ h1 with e | e
  · exact absurd e ha
  · grind

theorem Ground.mul_ne (k : Ground ell) {a b : Fin ell} (ha : a ≠ 0) (hb : b ≠ 0) : a * b ≠ 0 := fun h => by
  rcases k.dom _ _ h with e | e
  · exact ha e
  · exact hb e

def Ground.On (k : Ground ell) (x y : Fin ell) : Prop := y * y - x * x = 1 + k.d * (x * x) * (y * y)

theorem Ground.nonsq (k : Ground ell) {a b : Fin ell} (h : a * a = -k.d * (b * b)) : b = 0 := by
  refine Classical.byContradiction fun hb => ?_
  have hi := k.inv_mul b hb
  have h2 := k.i2
  exact k.nd (k.i * a * k.inv b) (by grind)

/-- The denominators are never 0. -/
theorem Ground.den (k : Ground ell) {x1 y1 x2 y2 e : Fin ell} (h1 : k.On x1 y1) (h2 : k.On x2 y2) (he : e * e = 1) : k.d * (x1 * x2 * y1 * y2) ≠ e := by
  intro ht
  unfold Ground.On at h1 h2
  have hi := k.i2
  have p1 : (k.i * x1 + e * y1) * (k.i * x1 + e * y1) = -k.d * ((k.i * x1 * y1 * (k.i * x2 + y2)) * (k.i * x1 * y1 * (k.i * x2 + y2))) := by grind
  have p2 : (k.i * x1 - e * y1) * (k.i * x1 - e * y1) = -k.d * ((k.i * x1 * y1 * (k.i * x2 - y2)) * (k.i * x1 * y1 * (k.i * x2 - y2))) := by grind
  have q1 := k.nonsq p1
  have q2 := k.nonsq p2
  have hne := k.ne
  have r : 2 * (k.i * x1 * y1 * y2) = 0 := by grind
  rcases k.dom _ _ r with a | a
  · exact k.two a
  · have : e * e = 0 := by grind
    exact hne (he.symm.trans this)

theorem Ground.den_plus (k : Ground ell) {x1 y1 x2 y2 : Fin ell} (h1 : k.On x1 y1) (h2 : k.On x2 y2) : 1 + k.d * (x1 * x2 * y1 * y2) ≠ 0 := fun h =>
  k.den h1 h2 (e := -1) (by grind) (by grind)
theorem Ground.den_minus (k : Ground ell) {x1 y1 x2 y2 : Fin ell} (h1 : k.On x1 y1) (h2 : k.On x2 y2) : 1 - k.d * (x1 * x2 * y1 * y2) ≠ 0 := fun h =>
  k.den h1 h2 (e := 1) (by grind) (by grind)

/-- A sum's two coordinates: what they are, without a quotient. -/
theorem Ground.on_sum (k : Ground ell) {x1 y1 x2 y2 x3 y3 : Fin ell} (h1 : k.On x1 y1) (h2 : k.On x2 y2) (hx : x3 * (1 + k.d * (x1 * x2 * y1 * y2)) = x1 * y2 + y1 * x2)
    (hy : y3 * (1 - k.d * (x1 * x2 * y1 * y2)) = y1 * y2 + x1 * x2) : k.On x3 y3 := by
  have n1 := k.den_plus h1 h2
  have n2 := k.den_minus h1 h2
  unfold Ground.On at *
  generalize hA : 1 + k.d * (x1 * x2 * y1 * y2) = A at *
  generalize hB : 1 - k.d * (x1 * x2 * y1 * y2) = B at *
  refine k.cancel (k.mul_ne (k.mul_ne n1 n1) (k.mul_ne n2 n2)) ?_
  have key : A * A * ((y1 * y2 + x1 * x2) * (y1 * y2 + x1 * x2)) - B * B * ((x1 * y2 + y1 * x2) * (x1 * y2 + y1 * x2)) =
      A * A * (B * B) + k.d * ((x1 * y2 + y1 * x2) * (x1 * y2 + y1 * x2)) * ((y1 * y2 + x1 * x2) * (y1 * y2 + x1 * x2)) := by
    subst hA hB
    clear hx hy n1 n2
    grind
  rw [← hx, ← hy] at key
  clear hx hy hA hB h1 h2 n1 n2
  grind


structure Pnt (k : Ground ell) where
  x : Fin ell
  y : Fin ell
  on : k.On x y

variable {k : Ground ell}
theorem Pnt.ext {p q : Pnt k} (hx : p.x = q.x) (hy : p.y = q.y) : p = q := by
  cases p; cases q
  simp only at hx hy
  subst hx hy
  rfl

def Pnt.dx (p q : Pnt k) : Fin ell := 1 + k.d * (p.x * q.x * p.y * q.y)
def Pnt.dy (p q : Pnt k) : Fin ell := 1 - k.d * (p.x * q.x * p.y * q.y)
theorem Pnt.dx_ne (p q : Pnt k) : p.dx q ≠ 0 := k.den_plus p.on q.on
theorem Pnt.dy_ne (p q : Pnt k) : p.dy q ≠ 0 := k.den_minus p.on q.on

theorem Ground.div_mul (k : Ground ell) {a b : Fin ell} (h : b ≠ 0) : a * k.inv b * b = a := by
  have := k.inv_mul b h
  grind

def Pnt.add (p q : Pnt k) : Pnt k :=
  ⟨(p.x * q.y + p.y * q.x) * k.inv (p.dx q), (p.y * q.y + p.x * q.x) * k.inv (p.dy q), k.on_sum p.on q.on (k.div_mul (p.dx_ne q)) (k.div_mul (p.dy_ne q))⟩

theorem Pnt.add_x (p q : Pnt k) : (p.add q).x * p.dx q = p.x * q.y + p.y * q.x := k.div_mul (p.dx_ne q)
theorem Pnt.add_y (p q : Pnt k) : (p.add q).y * p.dy q = p.y * q.y + p.x * q.x := k.div_mul (p.dy_ne q)

theorem Pnt.eq_add {p q s : Pnt k} (hx : s.x * p.dx q = p.x * q.y + p.y * q.x) (hy : s.y * p.dy q = p.y * q.y + p.x * q.x) : s = p.add q := by
  refine Pnt.ext (k.cancel (p.dx_ne q) ?_) (k.cancel (p.dy_ne q) ?_)
  · have := p.add_x q
    grind
  · have := p.add_y q
    grind

def Pnt.zero : Pnt k := ⟨0, 1, by unfold Ground.On; grind⟩
def Pnt.neg (p : Pnt k) : Pnt k := ⟨-p.x, p.y, by have := p.on; unfold Ground.On at *; grind⟩

theorem Pnt.add_comm (p q : Pnt k) : p.add q = q.add p := by
  refine Pnt.eq_add ?_ ?_
  · have := p.add_x q
    unfold Pnt.dx at *
    grind
  · have := p.add_y q
    unfold Pnt.dy at *
    grind

theorem Pnt.zero_add (p : Pnt k) : Pnt.zero.add p = p := by
  refine (Pnt.eq_add ?_ ?_).symm <;> simp only [Pnt.dx, Pnt.dy, Pnt.zero] <;> grind

theorem Pnt.neg_add (p : Pnt k) : p.neg.add p = Pnt.zero := by
  have := p.on
  unfold Ground.On at this
  refine (Pnt.eq_add ?_ ?_).symm <;> simp only [Pnt.dx, Pnt.dy, Pnt.zero, Pnt.neg] <;> grind

theorem Pnt.on' (p : Pnt k) : k.d * p.x * p.x * p.y * p.y + 1 + p.x * p.x - p.y * p.y = 0 := by
  have := p.on
  unfold Ground.On at this
  grind

theorem Ground.zero_of (k : Ground ell) {a b : Fin ell} (ha : a ≠ 0) (h : a * b = 0) : b = 0 := by
  rcases k.dom _ _ h with e | e
  · exact absurd e ha
  · exact e

theorem fin_x {d x1 y1 x3 y3 a b c e A B A2 B2 : Fin ell}
    (K : (a * A * B * y3 + b * B * A * x3) * (A2 * B2 + d * x1 * y1 * (c * A2) * (e * B2)) - (x1 * (e * B2) * A2 + y1 * (c * A2) * B2) * (A * B + d * x3 * y3 * (a * A) * (b * B)) = 0) :
    A * B * (A2 * B2) * ((a * y3 + b * x3) * (1 + d * (x1 * c * y1 * e)) - (x1 * e + y1 * c) * (1 + d * (a * x3 * b * y3))) = 0 := by
  rw [← K]; clear K; grind
theorem fin_y {d x1 y1 x3 y3 a b c e A B A2 B2 : Fin ell}
    (K : (b * B * A * y3 + a * A * B * x3) * (A2 * B2 - d * x1 * y1 * (c * A2) * (e * B2)) - (y1 * (e * B2) * A2 + x1 * (c * A2) * B2) * (A * B - d * x3 * y3 * (a * A) * (b * B)) = 0) :
    A * B * (A2 * B2) * ((b * y3 + a * x3) * (1 - d * (x1 * c * y1 * e)) - (y1 * e + x1 * c) * (1 - d * (a * x3 * b * y3))) = 0 := by
  rw [← K]; clear K; grind

theorem Pnt.add_assoc (p q r : Pnt k) : (p.add q).add r = p.add (q.add r) := by
  have nz := k.mul_ne (k.mul_ne (p.dx_ne q) (p.dy_ne q)) (k.mul_ne (q.dx_ne r) (q.dy_ne r))
  have eA : p.dx q = 1 + k.d * p.x * p.y * q.x * q.y := by unfold Pnt.dx; grind
  have eB : p.dy q = 1 - k.d * p.x * p.y * q.x * q.y := by unfold Pnt.dy; grind
  have eC : q.dx r = 1 + k.d * q.x * q.y * r.x * r.y := by unfold Pnt.dx; grind
  have eD : q.dy r = 1 - k.d * q.x * q.y * r.x * r.y := by unfold Pnt.dy; grind
  have kx := assoc_x (x1 := p.x) (y1 := p.y) (x2 := q.x) (y2 := q.y) (x3 := r.x) (y3 := r.y) (d := k.d) (p.add_x q) (p.add_y q) eA eB (q.add_x r) (q.add_y r) eC eD p.on' q.on' r.on'
  have ky := assoc_y (x1 := p.x) (y1 := p.y) (x2 := q.x) (y2 := q.y) (x3 := r.x) (y3 := r.y) (d := k.d) (p.add_x q) (p.add_y q) eA eB (q.add_x r) (q.add_y r) eC eD p.on' q.on' r.on'
  have zx := k.zero_of nz (fin_x kx)
  have zy := k.zero_of nz (fin_y ky)
  have he := (p.add q).add_x r
  have hf := (p.add q).add_y r
  refine Pnt.eq_add (k.cancel ((p.add q).dx_ne r) ?_) (k.cancel ((p.add q).dy_ne r) ?_)
  · clear kx ky eA eB eC eD zy hf nz
    unfold Pnt.dx at *
    generalize ((p.add q).add r).x = u at *
    generalize (p.add q).x = a at *
    generalize (p.add q).y = b at *
    generalize (q.add r).x = c at *
    generalize (q.add r).y = e at *
    grind
  · clear kx ky eA eB eC eD zx he nz
    unfold Pnt.dy at *
    generalize ((p.add q).add r).y = u at *
    generalize (p.add q).x = a at *
    generalize (p.add q).y = b at *
    generalize (q.add r).x = c at *
    generalize (q.add r).y = e at *
    grind

/-! multiples -/
def Pnt.smul : Nat → Pnt k → Pnt k
  | 0, _ => Pnt.zero
  | n + 1, p => (Pnt.smul n p).add p

theorem Pnt.add_zero (p : Pnt k) : p.add Pnt.zero = p := by rw [Pnt.add_comm, Pnt.zero_add]
theorem Pnt.smul_add (m n : Nat) (p : Pnt k) : Pnt.smul (m + n) p = (Pnt.smul m p).add (Pnt.smul n p) := by
  induction n with
  | zero => exact (Pnt.add_zero _).symm
  | succ n ih => rw [← Nat.add_assoc]; show (Pnt.smul (m + n) p).add p = _; rw [ih, Pnt.add_assoc]; rfl
theorem Pnt.smul_one (p : Pnt k) : Pnt.smul 1 p = p := Pnt.zero_add p
theorem Pnt.smul_zero (n : Nat) : Pnt.smul n (Pnt.zero : Pnt k) = Pnt.zero := by
  induction n with
  | zero => rfl
  | succ n ih => show (Pnt.smul n Pnt.zero).add Pnt.zero = _; rw [ih, Pnt.add_zero]
theorem Pnt.smul_mul (m n : Nat) (p : Pnt k) : Pnt.smul (m * n) p = Pnt.smul m (Pnt.smul n p) := by
  induction m with
  | zero => rw [Nat.zero_mul]; rfl
  | succ m ih => rw [Nat.succ_mul, Pnt.smul_add, ih]; rfl
theorem Pnt.add_swap (p q r s : Pnt k) : (p.add q).add (r.add s) = (p.add r).add (q.add s) := by
  rw [Pnt.add_assoc, Pnt.add_assoc, ← Pnt.add_assoc q r s, Pnt.add_comm q r, Pnt.add_assoc r q s]
theorem Pnt.smul_dist (n : Nat) (p q : Pnt k) : Pnt.smul n (p.add q) = (Pnt.smul n p).add (Pnt.smul n q) := by
  induction n with
  | zero => exact (Pnt.zero_add _).symm
  | succ n ih => show (Pnt.smul n (p.add q)).add (p.add q) = _; rw [ih, Pnt.add_swap]; rfl
theorem Pnt.add_cancel {p q r : Pnt k} (h : p.add q = p.add r) : q = r := by
  have : p.neg.add (p.add q) = p.neg.add (p.add r) := by rw [h]
  rwa [← Pnt.add_assoc, ← Pnt.add_assoc, Pnt.neg_add, Pnt.zero_add, Pnt.zero_add] at this

/-! halves; the two points of one Y -/
theorem Pnt.half (p : Pnt k) (h : p.add p = Pnt.zero) : p = Pnt.zero ∨ (p.x = 0 ∧ p.y = -1) := by
  have hx := p.add_x p
  have hy := p.add_y p
  rw [h] at hx hy
  have on := p.on
  unfold Ground.On at on
  have hx : 0 * p.dx p = p.x * p.y + p.y * p.x := hx
  have hy : 1 * p.dy p = p.y * p.y + p.x * p.x := hy
  unfold Pnt.dy at hy
  have h2 : (2 : Fin ell) * (p.x * p.y) = 0 := by grind
  have two := k.two
  rcases k.dom _ _ h2 with e | e
  · exact absurd e two
  rcases k.dom _ _ e with e | e
  · have h3 : (p.y - 1) * (p.y + 1) = 0 := by grind
    rcases k.dom _ _ h3 with f | f
    · left
      refine Pnt.ext e ?_
      show p.y = 1
      grind
    · right
      exact ⟨e, by grind⟩
  · exfalso
    refine two ?_
    rw [e] at hy on
    clear hx h2 e h
    grind

theorem Pnt.eighth (p q : Pnt k) (hq : q.y = 0) (h : p.add p = q) : (k.d * (p.y * p.y) + 1) * (k.d * (p.y * p.y) + 1) = k.d + 1 := by
  have hy := p.add_y p
  rw [h, hq] at hy
  have on := p.on
  unfold Ground.On at on
  grind

theorem Ground.x_of_y (k : Ground ell) {x x' y : Fin ell} (h : k.On x y) (h' : k.On x' y) : x = x' ∨ x = -x' := by
  unfold Ground.On at h h'
  have hne : 1 + k.d * (y * y) ≠ 0 := by
    intro e
    have i2 := k.i2
    exact k.nd k.i (by grind)
  have h1 : (1 + k.d * (y * y)) * ((x - x') * (x + x')) = 0 := by grind
  rcases k.dom _ _ (k.zero_of hne h1) with e | e
  · left; grind
  · right; grind
theorem Ground.y_den (k : Ground ell) (y : Fin ell) : 1 + k.d * (y * y) ≠ 0 := by
  intro e
  have i2 := k.i2
  by_cases hy : y = 0
  · have := k.ne
    rw [hy] at e
    grind
  · have hi := k.inv_mul y hy
    exact k.nd (k.i * k.inv y) (by grind)
theorem Ground.neg_zero (k : Ground ell) : -(0 : Fin ell) = 0 := by have := k.ne; grind


/-! points X / Z, Y / Z -/
structure Scaled (x y z : Fin ell) (p : Pnt k) : Prop where
  z0 : z ≠ 0
  hx : x = p.x * z
  hy : y = p.y * z

theorem Scaled.one (p : Pnt k) : Scaled p.x p.y 1 p := ⟨k.ne, by grind, by grind⟩
theorem Scaled.tog {x y z x' y' z' : Fin ell} {p q : Pnt k} (h : Scaled x y z p) (h' : Scaled x' y' z' q) :
    Scaled (z * z' * (x * y' + y * x') * (z * z' * (z * z') - k.d * (x * x' * (y * y')))) (z * z' * (x * x' + y * y') * (z * z' * (z * z') + k.d * (x * x' * (y * y'))))
      ((z * z' * (z * z') + k.d * (x * x' * (y * y'))) * (z * z' * (z * z') - k.d * (x * x' * (y * y')))) (p.add q) := by
  have ax := p.add_x q
  have ay := p.add_y q
  have e1 : z * z' * (z * z') + k.d * (x * x' * (y * y')) = z * z' * (z * z') * p.dx q := by
    rw [h.hx, h.hy, h'.hx, h'.hy]
    unfold Pnt.dx
    clear ax ay
    grind
  have e2 : z * z' * (z * z') - k.d * (x * x' * (y * y')) = z * z' * (z * z') * p.dy q := by
    rw [h.hx, h.hy, h'.hx, h'.hy]
    unfold Pnt.dy
    clear ax ay
    grind
  have zz := k.mul_ne (k.mul_ne h.z0 h'.z0) (k.mul_ne h.z0 h'.z0)
  have n1 := k.mul_ne zz (p.dx_ne q)
  have n2 := k.mul_ne zz (p.dy_ne q)
  rw [e1, e2]
  refine ⟨k.mul_ne n1 n2, ?_, ?_⟩
  · have e3 : x * y' + y * x' = z * z' * ((p.add q).x * p.dx q) := by
      rw [h.hx, h.hy, h'.hx, h'.hy, ax]
      clear ax ay e1 e2
      grind
    rw [e3]
    generalize p.dx q = A
    generalize p.dy q = B
    clear ax ay e1 e2 e3
    grind
  · have e3 : x * x' + y * y' = z * z' * ((p.add q).y * p.dy q) := by
      rw [h.hx, h.hy, h'.hx, h'.hy, ay]
      clear ax ay e1 e2
      grind
    rw [e3]
    generalize p.dx q = A
    generalize p.dy q = B
    clear ax ay e1 e2 e3
    grind
theorem Scaled.out {x y z : Fin ell} {p : Pnt k} (h : Scaled x y z p) : x * k.inv z = p.x ∧ y * k.inv z = p.y := by
  have hi := k.inv_mul z h.z0
  have h1 := h.hx
  have h2 := h.hy
  exact ⟨by grind, by grind⟩

end
end Obol
/- The field of R elements, the Edwards curve over it, and a first point. -/
namespace Obol

theorem R_pos : 0 < R := by decide +kernel
instance : NeZero R := ⟨by decide +kernel⟩
abbrev Fr := Fin R

def fr (a : Nat) : Fr := ⟨a % R, Nat.mod_lt _ R_pos⟩
theorem fr_val (a : Nat) : (fr a).val = a % R := rfl
theorem fr_of (a : Fr) : fr a.val = a := Fin.ext (Nat.mod_eq_of_lt a.isLt)
theorem val_mul (a b : Fr) : (a * b).val = a.val * b.val % R := rfl
theorem val_add (a b : Fr) : (a + b).val = (a.val + b.val) % R := rfl
theorem val_sub (a b : Fr) : (a - b).val = (R - b.val + a.val) % R := rfl
theorem val_neg (a : Fr) : (-a).val = (R - a.val) % R := rfl
theorem val_num (n : Nat) : (OfNat.ofNat n : Fr).val = n % R := rfl
theorem val_zero : (0 : Fr).val = 0 := by rw [val_num]; decide +kernel
theorem val_one : (1 : Fr).val = 1 := by rw [val_num]; decide +kernel

theorem val_eq_zero {a : Fr} : a = 0 ↔ a.val = 0 := by
  constructor
  · intro h; rw [h, val_zero]
  · intro h; exact Fin.ext (by rw [h, val_zero])

theorem powm_lt (m f a e : Nat) (hm : 0 < m) : powm m f a e < m := by
  induction f generalizing a e with
  | zero => exact Nat.mod_lt _ hm
  | succ f ih =>
    unfold powm
    split
    · exact Nat.mod_lt _ hm
    · split
      · exact Nat.mod_lt _ hm
      · exact ih _ _

def finv (a : Fr) : Fr := ⟨powm R 64 a.val (R - 2), powm_lt _ _ _ _ R_pos⟩
theorem finv_val (a : Fr) : (finv a).val = a.val ^ (R - 2) % R := powm_eq R 64 a.val (R - 2) (by decide +kernel)

theorem fr_dom (a b : Fr) (h : a * b = 0) : a = 0 ∨ b = 0 := by
  rw [val_eq_zero, val_mul] at h
  refine Classical.byContradiction fun hn => ?_
  have hn := not_or.1 hn
  refine rootR.nonzero (a := a.val) (b := b.val) ?_ ?_ h
  · rw [Nat.mod_eq_of_lt a.isLt]; exact fun e => hn.1 (val_eq_zero.2 e)
  · rw [Nat.mod_eq_of_lt b.isLt]; exact fun e => hn.2 (val_eq_zero.2 e)

theorem finv_mul (a : Fr) (h : a ≠ 0) : a * finv a = 1 := by
  refine Fin.ext ?_
  rw [val_mul, finv_val, val_one, Nat.mul_mod, Nat.mod_mod, ← Nat.mul_mod, Nat.mul_comm, ← Nat.pow_succ]
  have := rootR.fermat a.val (by rw [Nat.mod_eq_of_lt a.isLt]; exact fun e => h (val_eq_zero.2 e))
  rwa [show (R - 2).succ = R - 1 by decide +kernel]

theorem d_nonsq (x : Fr) : x * x ≠ fr 439 := by
  intro h
  have h := congrArg Fin.val h
  rw [val_mul, fr_val] at h
  have := rootR.euler (by decide +kernel) 439 x.val (by decide +kernel) h
  rw [← powm_eq R 64 439 ((R - 1) / 2) (by decide +kernel)] at this
  exact absurd this (by decide +kernel)

/-- The curve. -/
def K : Ground R where
  inv := finv
  d := fr 439
  i := fr (powm R 64 3 ((R - 1) / 4))
  ne := fun h => absurd (congrArg Fin.val h) (by decide +kernel)
  two := fun h => absurd (congrArg Fin.val h) (by decide +kernel)
  dom := fr_dom
  inv_mul := finv_mul
  i2 := Fin.ext (by decide +kernel)
  nd := d_nonsq

abbrev Pt := Pnt K

end Obol
/- Points as pairs of numbers: the sum, multiples from the highest bit on, whether a pair is a point. -/
namespace Obol

/-- A thing behind a door that the kernel doesn't open. -/
noncomputable def shut {α : Type} (x : α) : { y : α // y = x } := Classical.choice ⟨⟨x, rfl⟩⟩
def mulQ (a b : Nat) : Nat := a * b % R
def addQ (a b : Nat) : Nat := (a + b) % R
def subQ (a b : Nat) : Nat := (a % R + R - b % R) % R
noncomputable def mulR : Nat → Nat → Nat := (shut mulQ).1
noncomputable def addR : Nat → Nat → Nat := (shut addQ).1
noncomputable def subR : Nat → Nat → Nat := (shut subQ).1
noncomputable def invR : Nat → Nat := (shut (fun b : Nat => b ^ (R - 2) % R)).1
theorem mulR_eq : mulR = mulQ := (shut mulQ).2
theorem addR_eq : addR = addQ := (shut addQ).2
theorem subR_eq : subR = subQ := (shut subQ).2
theorem invR_eq (b : Nat) : invR b = b ^ (R - 2) % R := congrFun (shut (fun b : Nat => b ^ (R - 2) % R)).2 b
noncomputable def overR (a b : Nat) : Nat := mulR a (invR b)

/-- A pair's point. -/
def Pnt.n (p : Pt) : Nat × Nat := (p.x.val, p.y.val)
theorem Pnt.n_inj {p q : Pt} (h : p.n = q.n) : p = q := by
  have h1 := congrArg Prod.fst h
  have h2 := congrArg Prod.snd h
  exact Pnt.ext (Fin.ext h1) (Fin.ext h2)

noncomputable def isN (p : Nat × Nat) : Bool :=
  decide (p.1 < R) && decide (p.2 < R) && decide (subR (mulR p.2 p.2) (mulR p.1 p.1) = addR 1 (mulR 439 (mulR (mulR p.1 p.1) (mulR p.2 p.2))))

def isQ (p : Nat × Nat) : Bool :=
  decide (p.1 < R) && decide (p.2 < R) && decide (subQ (mulQ p.2 p.2) (mulQ p.1 p.1) = addQ 1 (mulQ 439 (mulQ (mulQ p.1 p.1) (mulQ p.2 p.2))))
theorem isN_eq (p : Nat × Nat) : isN p = isQ p := by unfold isN isQ; rw [mulR_eq, addR_eq, subR_eq]

def zeroN : Nat × Nat := (0, 1)
theorem zero_n : (Pnt.zero : Pt).n = zeroN := by
  show ((0 : Fr).val, (1 : Fr).val) = (0, 1)
  rw [val_zero, val_one]

theorem lt_mod {a : Nat} (h : a < R) : a % R = a := Nat.mod_eq_of_lt h

/-- The field's words as numbers'. -/
theorem mulR_val (a b : Fr) : mulR a.val b.val = (a * b).val := by rw [mulR_eq]; rfl
theorem addR_val (a b : Fr) : addR a.val b.val = (a + b).val := by rw [addR_eq]; rfl
theorem subR_val (a b : Fr) : subR a.val b.val = (a - b).val := by
  rw [val_sub, subR_eq, subQ, lt_mod a.isLt, lt_mod b.isLt]
  congr 1
  have := a.isLt
  have := b.isLt
  omega
theorem d_val : K.d.val = 439 := by decide +kernel
theorem one_val : (1 : Fr).val = 1 := val_one
theorem overR_val (a b : Fr) : overR a.val b.val = (a * K.inv b).val := by
  rw [overR, invR_eq, ← finv_val]
  exact mulR_val a (finv b)

theorem on_iff (x y : Fr) : K.On x y ↔ isN (x.val, y.val) = true := by
  have e : isN (x.val, y.val) = decide ((y * y - x * x).val = (1 + K.d * (x * x * (y * y))).val) := by
    unfold isN
    rw [decide_eq_true x.isLt, decide_eq_true y.isLt, Bool.true_and, Bool.true_and]
    rw [mulR_val, mulR_val, subR_val, mulR_val, ← d_val, mulR_val]
    rw [← one_val, addR_val]
  rw [e, decide_eq_true_eq]
  unfold Ground.On
  have e2 : 1 + K.d * (x * x) * (y * y) = 1 + K.d * (x * x * (y * y)) := by grind
  rw [e2]
  exact ⟨fun h => by rw [h], fun h => Fin.ext h⟩

/-- What is a point's pair. -/
theorem isN_pt {p : Nat × Nat} (h : isN p = true) : ∃ q : Pt, q.n = p := by
  have h' := h
  unfold isN at h'
  simp only [Bool.and_eq_true, decide_eq_true_eq] at h'
  refine ⟨⟨⟨p.1, h'.1.1⟩, ⟨p.2, h'.1.2⟩, (on_iff _ _).2 h⟩, rfl⟩
theorem pt_isN (p : Pt) : isN p.n = true := (on_iff _ _).1 p.on

noncomputable def sureN (p : Nat × Nat) : Nat × Nat := if isN p then p else zeroN

noncomputable def sumN (p q : Nat × Nat) : Nat × Nat :=
  let x := mulR p.1 q.1
  let y := mulR p.2 q.2
  let k := mulR 439 (mulR x y)
  (overR (addR (mulR p.1 q.2) (mulR p.2 q.1)) (addR 1 k), overR (addR x y) (subR 1 k))

theorem sum_n (p q : Pt) : sumN p.n q.n = (p.add q).n := by
  unfold sumN Pnt.n
  simp only
  rw [mulR_val, mulR_val, mulR_val, mulR_val, mulR_val, ← d_val, mulR_val, ← one_val, addR_val, addR_val, addR_val, subR_val, overR_val, overR_val]
  unfold Pnt.add Pnt.dx Pnt.dy
  simp only
  have e1 : K.d * (p.x * q.x * (p.y * q.y)) = K.d * (p.x * q.x * p.y * q.y) := by grind
  have e2 : p.x * q.x + p.y * q.y = p.y * q.y + p.x * q.x := by grind
  rw [e1, e2]

/-- Multiples, from the highest bit on. -/
noncomputable def timesN (a : Nat × Nat) (k : Nat) : Nat → Nat × Nat → Nat × Nat
  | 0, out => out
  | j + 1, out =>
    let o := if out = zeroN then out else sumN out out
    timesN a k j (if k / 2 ^ j % 2 = 1 then sumN o a else o)

theorem sum_zero (p : Pt) : (Pnt.zero : Pt).add p = p := Pnt.zero_add p

theorem times_step (p : Pt) (k j : Nat) (o : Pt) (ho : o = Pnt.smul (k / 2 ^ (j + 1)) p) :
    (if k / 2 ^ j % 2 = 1 then sumN (if o.n = zeroN then o.n else sumN o.n o.n) p.n else (if o.n = zeroN then o.n else sumN o.n o.n)) = (Pnt.smul (k / 2 ^ j) p).n := by
  have hd : (if o.n = zeroN then o.n else sumN o.n o.n) = (o.add o).n := by
    split
    · rename_i h
      rw [← zero_n] at h
      rw [Pnt.n_inj h, sum_zero]
    · exact sum_n o o
  have hk : k / 2 ^ j = k / 2 ^ (j + 1) + k / 2 ^ (j + 1) + k / 2 ^ j % 2 := by
    have : k / 2 ^ (j + 1) = k / 2 ^ j / 2 := by rw [Nat.pow_succ, Nat.div_div_eq_div_mul]
    rw [this]
    omega
  rw [hd]
  by_cases hb : k / 2 ^ j % 2 = 1
  · rw [if_pos hb, sum_n]
    conv => rhs; rw [hk, hb, Pnt.smul_add, Pnt.smul_add, Pnt.smul_one, ← ho]
  · have : k / 2 ^ j % 2 = 0 := by omega
    rw [if_neg hb]
    conv => rhs; rw [hk, this, Nat.add_zero, Pnt.smul_add, ← ho]

theorem times_from (p : Pt) (k : Nat) : ∀ (j : Nat) (o : Pt), o = Pnt.smul (k / 2 ^ j) p → timesN p.n k j o.n = (Pnt.smul k p).n
  | 0, o, ho => by
    rw [Nat.pow_zero, Nat.div_one] at ho
    rw [timesN, ho]
  | j + 1, o, ho => by
    unfold timesN
    simp only
    rw [times_step p k j o ho]
    exact times_from p k j _ rfl

theorem times_n (p : Pt) (k : Nat) (hk : k < 2 ^ 64) : timesN p.n k 64 zeroN = (Pnt.smul k p).n := by
  rw [← zero_n]
  exact times_from p k 64 Pnt.zero (by rw [Nat.div_eq_of_lt hk]; rfl)

/-! quick ones, for the kernel -/
def sumQ (p q : Nat × Nat) : Nat × Nat :=
  let x := mulQ p.1 q.1
  let y := mulQ p.2 q.2
  let k := mulQ 439 (mulQ x y)
  (mulQ (addQ (mulQ p.1 q.2) (mulQ p.2 q.1)) (powm R 64 (addQ 1 k) (R - 2)), mulQ (addQ x y) (powm R 64 (subQ 1 k) (R - 2)))
theorem sumQ_eq (p q : Nat × Nat) : sumQ p q = sumN p q := by
  unfold sumQ sumN overR
  simp only
  rw [invR_eq, invR_eq, powm_eq R 64 _ _ (by decide +kernel), powm_eq R 64 _ _ (by decide +kernel), mulR_eq, addR_eq, subR_eq]

def timesQ (a : Nat × Nat) (k : Nat) : Nat → Nat × Nat → Nat × Nat
  | 0, out => out
  | j + 1, out => timesQ a k j (if k / 2 ^ j % 2 = 1 then sumQ (sumQ out out) a else sumQ out out)
theorem timesQ_from (p : Pt) (k : Nat) : ∀ (j : Nat) (o : Pt), o = Pnt.smul (k / 2 ^ j) p → timesQ p.n k j o.n = (Pnt.smul k p).n
  | 0, o, ho => by
    rw [Nat.pow_zero, Nat.div_one] at ho
    rw [timesQ, ho]
  | j + 1, o, ho => by
    unfold timesQ
    have h := times_step p k j o ho
    have hd : (if o.n = zeroN then o.n else sumN o.n o.n) = sumN o.n o.n := by
      split
      · rename_i e
        rw [← zero_n] at e
        rw [Pnt.n_inj e, sum_n, sum_zero]
      · rfl
    rw [hd] at h
    rw [sumQ_eq, sumQ_eq, h]
    exact timesQ_from p k j _ rfl
theorem timesQ_n (p : Pt) (k b : Nat) (hk : k < 2 ^ b) : timesQ p.n k b zeroN = (Pnt.smul k p).n := by
  rw [← zero_n]
  exact timesQ_from p k b Pnt.zero (by rw [Nat.div_eq_of_lt hk]; rfl)

/-- The sum of two points X / Z, Y / Z. -/
noncomputable def togN (a b : Nat × Nat × Nat) : Nat × Nat × Nat :=
  let z := mulR a.2.2 b.2.2
  let z2 := mulR z z
  let x := mulR a.1 b.1
  let y := mulR a.2.1 b.2.1
  let k := mulR 439 (mulR x y)
  let up := addR z2 k
  let down := subR z2 k
  let cross := addR (mulR a.1 b.2.1) (mulR a.2.1 b.1)
  (mulR (mulR z cross) down, mulR (mulR z (addR x y)) up, mulR up down)

/-- What is handed in, as a point. -/
noncomputable def Pnt.of (p : Nat × Nat) : Pt := if h : isN p = true then ⟨⟨p.1, by unfold isN at h; simp only [Bool.and_eq_true, decide_eq_true_eq] at h; exact h.1.1⟩, ⟨p.2, by unfold isN at h; simp only [Bool.and_eq_true, decide_eq_true_eq] at h; exact h.1.2⟩, (on_iff _ _).2 h⟩ else Pnt.zero
theorem sure_n (p : Nat × Nat) : sureN p = (Pnt.of p).n := by
  unfold sureN Pnt.of
  by_cases h : isN p = true
  · rw [if_pos h, dif_pos h]
    rfl
  · rw [if_neg h, dif_neg h, zero_n]
theorem of_n (p : Pt) : Pnt.of p.n = p := by
  refine Pnt.n_inj ?_
  rw [← sure_n, sureN, if_pos (pt_isN p)]

/-- Three numbers that stand for a point. -/
structure Sc (t : Nat × Nat × Nat) (p : Pt) : Prop where
  x1 : t.1 < R
  y1 : t.2.1 < R
  z1 : t.2.2 < R
  sc : Scaled (⟨t.1, x1⟩ : Fr) ⟨t.2.1, y1⟩ ⟨t.2.2, z1⟩ p

theorem mulR_lt (a b : Nat) : mulR a b < R := by rw [mulR_eq]; exact Nat.mod_lt _ R_pos
theorem Sc.tog {a b : Nat × Nat × Nat} {p q : Pt} (h : Sc a p) (h' : Sc b q) : Sc (togN a b) (p.add q) := by
  refine ⟨mulR_lt _ _, mulR_lt _ _, mulR_lt _ _, ?_⟩
  have e := h.sc.tog h'.sc
  generalize hx : (⟨a.1, h.x1⟩ : Fr) = x at e
  generalize hy : (⟨a.2.1, h.y1⟩ : Fr) = y at e
  generalize hz : (⟨a.2.2, h.z1⟩ : Fr) = z at e
  generalize hx' : (⟨b.1, h'.x1⟩ : Fr) = x' at e
  generalize hy' : (⟨b.2.1, h'.y1⟩ : Fr) = y' at e
  generalize hz' : (⟨b.2.2, h'.z1⟩ : Fr) = z' at e
  have ha : a = (x.val, y.val, z.val) := by rw [← hx, ← hy, ← hz]
  have hb : b = (x'.val, y'.val, z'.val) := by rw [← hx', ← hy', ← hz']
  have ht : togN a b = ((z * z' * (x * y' + y * x') * (z * z' * (z * z') - K.d * (x * x' * (y * y')))).val, (z * z' * (x * x' + y * y') * (z * z' * (z * z') + K.d * (x * x' * (y * y')))).val,
      ((z * z' * (z * z') + K.d * (x * x' * (y * y'))) * (z * z' * (z * z') - K.d * (x * x' * (y * y')))).val) := by
    rw [ha, hb]
    unfold togN
    simp only [mulR_val, addR_val, ← d_val, subR_val]
  have h1 := congrArg (·.1) ht
  have h2 := congrArg (·.2.1) ht
  have h3 := congrArg (·.2.2) ht
  simp only at h1 h2 h3
  simp only [h1, h2, h3]
  exact e
theorem Sc.one (p : Pt) : Sc (p.x.val, p.y.val, 1) p := ⟨p.x.isLt, p.y.isLt, (by show 1 < R; decide +kernel), by
  have h := Scaled.one p
  have e : (⟨1, by decide +kernel⟩ : Fr) = 1 := Fin.ext (by rw [val_one])
  show Scaled p.x p.y (⟨1, _⟩ : Fr) p
  rw [e]
  exact h⟩
theorem Sc.zero : Sc (0, 1, 1) Pnt.zero := by
  have h := Sc.one Pnt.zero
  have e := zero_n
  unfold Pnt.n zeroN at e
  have e1 := congrArg Prod.fst e
  have e2 := congrArg Prod.snd e
  simp only at e1 e2
  rw [e1, e2] at h
  exact h
theorem inv_val (z : Fr) : invR z.val = (K.inv z).val := by
  have h : K.inv z = finv z := rfl
  rw [invR_eq, h, finv_val]
theorem Sc.out {t : Nat × Nat × Nat} {p : Pt} (h : Sc t p) : (mulR t.1 (invR t.2.2), mulR t.2.1 (invR t.2.2)) = p.n := by
  obtain ⟨e1, e2⟩ := h.sc.out
  have hv : invR t.2.2 = _ := inv_val (⟨t.2.2, h.z1⟩ : Fr)
  have hx : mulR t.1 _ = _ := mulR_val (⟨t.1, h.x1⟩ : Fr) (K.inv (⟨t.2.2, h.z1⟩ : Fr))
  have hy : mulR t.2.1 _ = _ := mulR_val (⟨t.2.1, h.y1⟩ : Fr) (K.inv (⟨t.2.2, h.z1⟩ : Fr))
  rw [hv]
  unfold Pnt.n
  rw [← e1, ← e2, ← hx, ← hy]

/-- What is known ahead of each round of a multiple: what is gathered, what is added, how often. -/
structure MulInv (a : Pt) (k : Nat) (o b : Nat × Nat × Nat) (en : Nat) : Prop where
  ex : ∃ p q : Pt, Sc o p ∧ Sc b q ∧ p.add (Pnt.smul en q) = Pnt.smul k a
theorem MulInv.start (a : Pt) (k : Nat) : MulInv a k (0, 1, 1) (a.x.val, a.y.val, 1) k := ⟨Pnt.zero, a, Sc.zero, Sc.one a, Pnt.zero_add _⟩
theorem smul_half (en : Nat) (q : Pt) : Pnt.smul en q = (Pnt.smul (en % 2) q).add (Pnt.smul (en / 2) (q.add q)) := by
  have h : q.add q = Pnt.smul 2 q := by
    show _ = (Pnt.smul 1 q).add q
    rw [Pnt.smul_one]
  rw [h, ← Pnt.smul_mul, ← Pnt.smul_add]
  congr 1
  omega
theorem MulInv.one {a : Pt} {k : Nat} {o b : Nat × Nat × Nat} {en : Nat} (h : MulInv a k o b en) (ho : en % 2 = 1) : MulInv a k (togN o b) (togN b b) (en / 2) := by
  obtain ⟨p, q, hp, hq, e⟩ := h.ex
  refine ⟨p.add q, q.add q, hp.tog hq, hq.tog hq, ?_⟩
  rw [smul_half, ho, Pnt.smul_one, ← Pnt.add_assoc] at e
  exact e
theorem MulInv.zero {a : Pt} {k : Nat} {o b : Nat × Nat × Nat} {en : Nat} (h : MulInv a k o b en) (ho : en % 2 = 0) : MulInv a k o (togN b b) (en / 2) := by
  obtain ⟨p, q, hp, hq, e⟩ := h.ex
  refine ⟨p, q.add q, hp, hq.tog hq, ?_⟩
  rw [smul_half, ho] at e
  have e : p.add (Pnt.zero.add (Pnt.smul (en / 2) (q.add q))) = Pnt.smul k a := e
  rwa [Pnt.zero_add] at e
theorem MulInv.done {a : Pt} {k : Nat} {o b : Nat × Nat × Nat} (h : MulInv a k o b 0) : (mulR o.1 (invR o.2.2), mulR o.2.1 (invR o.2.2)) = (Pnt.smul k a).n := by
  obtain ⟨p, q, hp, hq, e⟩ := h.ex
  have e : p.add Pnt.zero = Pnt.smul k a := e
  rw [Pnt.add_zero] at e
  rw [← e]
  exact hp.out

/-- So often whatever. -/
noncomputable def smulN : Nat × Nat → Nat → Nat × Nat := (shut fun (p : Nat × Nat) (k : Nat) => (Pnt.smul k (Pnt.of p)).n).1
theorem smulN_eq (p : Nat × Nat) (k : Nat) : smulN p k = (Pnt.smul k (Pnt.of p)).n := congrFun (congrFun (shut fun (p : Nat × Nat) (k : Nat) => (Pnt.smul k (Pnt.of p)).n).2 p) k

end Obol
/- Four times S times any point is 0: by counting points. The first point's order is S. -/
namespace Obol

theorem Root.prm {N g : Nat} (h : Root N g) : Prm N := by
  have hb := h.big
  refine ⟨by omega, fun d hd => ?_⟩
  obtain ⟨c, hc⟩ := hd
  refine Classical.byContradiction fun hn => ?_
  have hn := not_or.1 hn
  have hd0 : 0 < d := by
    rcases Nat.eq_zero_or_pos d with e | e
    · rw [e, Nat.zero_mul] at hc; omega
    · exact e
  have hc0 : 0 < c := by
    rcases Nat.eq_zero_or_pos c with e | e
    · rw [e, Nat.mul_zero] at hc; omega
    · exact e
  have hdl : d < N := by
    have : d ≤ N := by rw [hc]; exact Nat.le_mul_of_pos_right _ hc0
    omega
  have hcl : c < N := by
    have h1 : c ≤ N := by rw [hc]; exact Nat.le_mul_of_pos_left _ hd0
    have h2 : c ≠ N := fun e => by
      rw [e] at hc
      have : d * N = 1 * N := by rw [Nat.one_mul]; exact hc.symm
      exact hn.1 (Nat.eq_of_mul_eq_mul_right (by omega) this)
    omega
  refine h.nonzero (a := d) (b := c) (by rw [Nat.mod_eq_of_lt hdl]; omega) (by rw [Nat.mod_eq_of_lt hcl]; omega) ?_
  rw [← hc, Nat.mod_self]

theorem smul_gcd (p : Pt) : ∀ (a b : Nat), Pnt.smul a p = Pnt.zero → Pnt.smul b p = Pnt.zero → Pnt.smul (Nat.gcd a b) p = Pnt.zero := by
  intro a
  induction a using Nat.strongRecOn with
  | _ a ih =>
    intro b ha hb
    by_cases h0 : a = 0
    · subst h0; rw [Nat.gcd_zero_left]; exact hb
    · rw [Nat.gcd_rec]
      refine ih (b % a) (Nat.mod_lt _ (by omega)) a ?_ ha
      have h1 : Pnt.smul (a * (b / a) + b % a) p = Pnt.zero := by rw [Nat.div_add_mod]; exact hb
      rw [Pnt.smul_add, Nat.mul_comm, Pnt.smul_mul, ha, Pnt.smul_zero, Pnt.zero_add] at h1
      exact h1

/-- No multiple below n is 0, where n over no prime of it is. -/
theorem smul_order (p : Pt) (n : Nat) (hn : 0 < n) (l : List Nat) (hl : ∀ q, q ∈ l → Prm q) (hf : l.foldr (· * ·) 1 = n) (h1 : Pnt.smul n p = Pnt.zero)
    (hq : ∀ q, q ∈ l → Pnt.smul (n / q) p ≠ Pnt.zero) (i : Nat) (h0 : 0 < i) (hi : i < n) : Pnt.smul i p ≠ Pnt.zero := by
  intro he
  have hd := smul_gcd p i n he h1
  have hdi := Nat.gcd_dvd_left i n
  obtain ⟨m, hm⟩ := Nat.gcd_dvd_right i n
  have hle := Nat.le_of_dvd h0 hdi
  have hm1 : 1 < m := by
    refine Nat.lt_of_not_le fun hle1 => ?_
    have : m = 0 ∨ m = 1 := by omega
    rcases this with e | e
    · rw [e, Nat.mul_zero] at hm; omega
    · rw [e, Nat.mul_one] at hm; omega
  obtain ⟨q, hql, c, hc⟩ := prm_in l hl m hm1 (by rw [hf]; exact ⟨Nat.gcd i n, by rw [Nat.mul_comm]; exact hm⟩)
  have hq1 := (hl q hql).1
  refine hq q hql ?_
  have : n / q = c * Nat.gcd i n := by
    refine Nat.div_eq_of_eq_mul_right (by omega) ?_
    rw [← Nat.mul_assoc, ← hc, Nat.mul_comm]
    exact hm
  rw [this, Pnt.smul_mul, hd, Pnt.smul_zero]

/-- A point of order 4 S. -/
def C : Pt := ⟨fr 122714579359187509, fr 218550362766627754, (on_iff _ _).2 (by rw [isN_eq]; decide +kernel)⟩
theorem C_n : C.n = (122714579359187509, 218550362766627754) := by decide +kernel

theorem smul_dec {p : Pt} {k : Nat} {v : Nat × Nat} (b : Nat) (hk : k < 2 ^ b) (h : timesQ p.n k b zeroN = v) : (Pnt.smul k p).n = v := by
  rw [← timesQ_n p k b hk]; exact h

theorem C_4S : Pnt.smul (4 * S) C = Pnt.zero :=
  Pnt.n_inj ((smul_dec 60 (by decide +kernel) (by rw [C_n]; exact of_decide_eq_true (by decide +kernel))).trans zero_n.symm)
theorem C_2S : (Pnt.smul (2 * S) C).n = (0, R - 1) := smul_dec 60 (by decide +kernel) (by rw [C_n]; exact of_decide_eq_true (by decide +kernel))
theorem C_S : (Pnt.smul S C).n = (263209301981812971, 0) := smul_dec 60 (by decide +kernel) (by rw [C_n]; exact of_decide_eq_true (by decide +kernel))
theorem y_of_n {q : Pt} {a : Nat} (h : q.n = (a, 0)) : q.y = 0 := val_eq_zero.2 (congrArg Prod.snd h)
theorem C_S_y : (Pnt.smul S C).y = 0 := y_of_n C_S
theorem C_4 : (Pnt.smul 4 C).n = (102079033001587460, 266919760672381183) := smul_dec 60 (by decide +kernel) (by rw [C_n]; exact of_decide_eq_true (by decide +kernel))

theorem C_order (i : Nat) (h0 : 0 < i) (hi : i < 4 * S) : Pnt.smul i C ≠ Pnt.zero := by
  refine smul_order C (4 * S) (by decide +kernel) [2, 2, S] ?_ (by decide +kernel) C_4S ?_ i h0 hi
  · intro q hq
    have : q = 2 ∨ q = S := by simpa using hq
    rcases this with e | e
    · rw [e]; exact prm_of 0 2 (by decide) (by decide) (by decide)
    · rw [e]; exact rootS.prm
  · intro q hq he
    have : q = 2 ∨ q = S := by simpa using hq
    rcases this with e | e
    · rw [e, show 4 * S / 2 = 2 * S by decide +kernel] at he
      have h1 := congrArg Pnt.n he
      rw [C_2S, zero_n] at h1
      exact absurd h1 (by decide +kernel)
    · rw [e, show 4 * S / S = 4 by decide +kernel] at he
      have h1 := congrArg Pnt.n he
      rw [C_4, zero_n] at h1
      exact absurd h1 (by decide +kernel)

/-! halves -/
theorem half_zero (p : Pt) (h : p.add p = Pnt.zero) : p = Pnt.zero ∨ p = Pnt.smul (2 * S) C := by
  rcases p.half h with e | ⟨e, hy⟩
  · exact .inl e
  · right
    refine Pnt.n_inj ?_
    rw [C_2S]
    unfold Pnt.n
    rw [e, hy, val_zero, val_neg, val_one, Nat.mod_eq_of_lt (by decide +kernel)]

theorem no_eighth (p q : Pt) (hq : q.y = 0) : p.add p ≠ q := by
  intro h
  have hv := congrArg Fin.val (p.eighth q hq h)
  rw [val_mul, val_add K.d, d_val, val_one] at hv
  have := rootR.euler (by decide +kernel) (439 + 1) _ (by decide +kernel) hv
  rw [← powm_eq R 64 (439 + 1) ((R - 1) / 2) (by decide +kernel)] at this
  exact absurd this (by decide +kernel)

/-! what tells a point: its Y, and in which half its X is -/
def code (p : Pt) : Nat := p.y.val + if 2 * p.x.val < R then 0 else R
theorem code_lt (p : Pt) : code p < 2 * R := by
  unfold code
  have := p.y.isLt
  split <;> omega

theorem code_inj {p q : Pt} (h : code p = code q) : p = q := by
  unfold code at h
  have a1 := p.y.isLt
  have a2 := q.y.isLt
  have a3 := p.x.isLt
  have a4 := q.x.isLt
  have hy : p.y.val = q.y.val := by split at h <;> split at h <;> omega
  have hy' : p.y = q.y := Fin.ext hy
  refine Pnt.ext ?_ hy'
  rcases K.x_of_y p.on (hy' ▸ q.on) with e | e
  · exact e
  · have hv := congrArg Fin.val e
    rw [val_neg] at hv
    by_cases h0 : q.x.val = 0
    · have : q.x = 0 := val_eq_zero.2 h0
      rw [e, this, K.neg_zero]
    · exfalso
      rw [Nat.mod_eq_of_lt (by omega)] at hv
      have hodd : R % 2 = 1 := by decide +kernel
      split at h <;> split at h <;> omega

theorem smul_C_turn (j t : Nat) : Pnt.smul (j + 4 * S * t) C = Pnt.smul j C := by
  rw [Pnt.smul_add, Nat.mul_comm (4 * S), Pnt.smul_mul, C_4S, Pnt.smul_zero, Pnt.add_zero]

theorem Pnt.smul_nil (p : Pt) : Pnt.smul 0 p = Pnt.zero := rfl
theorem m_turn (m : Nat) : m + m * (4 * S - 1) = 4 * S * m := by
  have sS : 0 < S := by decide +kernel
  have e2 : 4 * S * m = (4 * S - 1) * m + m := by
    rw [← Nat.succ_mul]
    rfl
  rw [e2, Nat.mul_comm m]
  omega

theorem killed (p : Pt) : Pnt.smul (4 * S) p = Pnt.zero := by
  refine Classical.byContradiction fun hp => ?_
  have sS : 0 < S := by decide +kernel
  have hA : ∀ j, p ≠ Pnt.smul j C := fun j e => hp (by
    rw [e, ← Pnt.smul_mul, Nat.mul_comm, Pnt.smul_mul, C_4S, Pnt.smul_zero])
  -- from p + m C = a C follows p in the multiples of C
  have hA' : ∀ m a, p.add (Pnt.smul m C) ≠ Pnt.smul a C := fun m a e => hA (a + m * (4 * S - 1)) (by
    rw [Pnt.smul_add, ← e, Pnt.add_assoc, ← Pnt.smul_add]
    have : m + m * (4 * S - 1) = 0 + 4 * S * m := by rw [Nat.zero_add, m_turn]
    rw [this, smul_C_turn, Pnt.smul_nil, Pnt.add_zero])
  have dbl : ∀ m, (p.add (Pnt.smul m C)).add (p.add (Pnt.smul m C)) = (p.add p).add (Pnt.smul (m + m) C) := fun m => by
    rw [Pnt.add_swap, Pnt.smul_add]
  have hB : ∀ j, p.add p ≠ Pnt.smul j C := by
    intro j e
    by_cases hj : j % 2 = 0
    · have hm := dbl (j / 2 * (4 * S - 1))
      rw [e, ← Pnt.smul_add] at hm
      have : j + (j / 2 * (4 * S - 1) + j / 2 * (4 * S - 1)) = 0 + 4 * S * j := by
        have e1 : j / 2 * (4 * S - 1) + j / 2 * (4 * S - 1) = j * (4 * S - 1) := by
          rw [← Nat.add_mul]
          congr 1
          omega
        rw [e1, Nat.zero_add, m_turn]
      rw [this, smul_C_turn] at hm
      rcases half_zero _ hm with h | h
      · exact hA' _ 0 h
      · exact hA' _ _ h
    · have hS : S % 2 = 1 := by decide +kernel
      have e0 : (4 * S - 1) * j % 2 = 1 := by rw [Nat.mul_mod]; have : (4 * S - 1) % 2 = 1 := by omega
                                              rw [this, show j % 2 = 1 by omega]
      have hm := dbl ((S + (4 * S - 1) * j) / 2)
      rw [e, ← Pnt.smul_add] at hm
      have : j + ((S + (4 * S - 1) * j) / 2 + (S + (4 * S - 1) * j) / 2) = S + 4 * S * j := by
        have e1 : (S + (4 * S - 1) * j) / 2 + (S + (4 * S - 1) * j) / 2 = S + (4 * S - 1) * j := by omega
        rw [e1]
        have e2 := m_turn j
        rw [Nat.mul_comm j] at e2
        omega
      rw [this, smul_C_turn] at hm
      exact no_eighth _ _ C_S_y hm
  -- 12 S points
  have hsm : ∀ k j, 0 < k → k < 3 → Pnt.smul k p ≠ Pnt.smul j C := by
    intro k j h0 h3 e
    have : k = 1 ∨ k = 2 := by omega
    rcases this with h | h
    · subst h; rw [Pnt.smul_one] at e; exact hA j e
    · subst h
      have : Pnt.smul 2 p = p.add p := by
        show (Pnt.smul 1 p).add p = _
        rw [Pnt.smul_one]
      rw [this] at e
      exact hB j e
  have hinj : ∀ k k' i i', k ≤ k' → k' < 3 → i < 4 * S → i' < 4 * S → (Pnt.smul k p).add (Pnt.smul i C) = (Pnt.smul k' p).add (Pnt.smul i' C) → k = k' ∧ i = i' := by
    intro k k' i i' hk hk' hi hi' e
    have ek : k' = k + (k' - k) := by omega
    rw [ek, Pnt.smul_add, Pnt.add_assoc] at e
    have e := Pnt.add_cancel e
    by_cases hz : k' - k = 0
    · refine ⟨by omega, ?_⟩
      rw [hz] at e
      have e : Pnt.smul i C = Pnt.zero.add (Pnt.smul i' C) := e
      rw [Pnt.zero_add] at e
      have hno : ∀ a b, a < b → b < 4 * S → Pnt.smul a C ≠ Pnt.smul b C := by
        intro a b hab hb e
        have hb' : b = a + (b - a) := by omega
        rw [hb', Pnt.smul_add, ← Pnt.add_zero (Pnt.smul a C), Pnt.add_assoc, Pnt.zero_add] at e
        exact C_order (b - a) (by omega) (by omega) (Pnt.add_cancel e).symm
      rcases Nat.lt_trichotomy i i' with h | h | h
      · exact absurd e (hno i i' h hi')
      · exact h
      · exact absurd e.symm (hno i' i h hi)
    · exfalso
      refine hsm (k' - k) (i + i' * (4 * S - 1)) (by omega) (by omega) ?_
      rw [Pnt.smul_add, e, Pnt.add_assoc, ← Pnt.smul_add]
      have : i' + i' * (4 * S - 1) = 0 + 4 * S * i' := by rw [Nat.zero_add, m_turn]
      rw [this, smul_C_turn, Pnt.smul_nil, Pnt.add_zero]
  have h12 := pigeon (2 * R) (12 * S) (fun n => code ((Pnt.smul (n / (4 * S)) p).add (Pnt.smul (n % (4 * S)) C))) (fun _ _ => code_lt _) (by
    intro a b ha hb e
    have e := code_inj e
    have la : a % (4 * S) < 4 * S := Nat.mod_lt _ (by omega)
    have lb : b % (4 * S) < 4 * S := Nat.mod_lt _ (by omega)
    have da := Nat.div_add_mod a (4 * S)
    have db := Nat.div_add_mod b (4 * S)
    have qa : a / (4 * S) < 3 := by rw [Nat.div_lt_iff_lt_mul (by omega)]; omega
    have qb : b / (4 * S) < 3 := by rw [Nat.div_lt_iff_lt_mul (by omega)]; omega
    have both : a / (4 * S) = b / (4 * S) ∧ a % (4 * S) = b % (4 * S) := by
      rcases Nat.le_total (a / (4 * S)) (b / (4 * S)) with h | h
      · exact hinj _ _ _ _ h qb la lb e
      · have := hinj _ _ _ _ h qa lb la e.symm
        exact ⟨this.1.symm, this.2.symm⟩
    rw [← da, ← db, both.1, both.2])
  have : ¬ (12 * S ≤ 2 * R) := by decide +kernel
  exact this h12

/-- The first point, and its order. -/
def G : Pt := ⟨fr 223588670687113535, fr 82055451961885530, (on_iff _ _).2 (by rw [isN_eq]; decide +kernel)⟩
theorem G_n : G.n = (223588670687113535, 82055451961885530) := by decide +kernel
theorem G_S : Pnt.smul S G = Pnt.zero :=
  Pnt.n_inj ((smul_dec 60 (by decide +kernel) (by rw [G_n]; exact of_decide_eq_true (by decide +kernel))).trans zero_n.symm)
theorem G_ne : G ≠ Pnt.zero := fun e => by
  have := congrArg Pnt.n e
  rw [G_n, zero_n] at this
  exact absurd this (by decide +kernel)
theorem order_S {p : Pt} (h : Pnt.smul S p = Pnt.zero) (hp : p ≠ Pnt.zero) (i : Nat) (h0 : 0 < i) (hi : i < S) : Pnt.smul i p ≠ Pnt.zero :=
  smul_order p S (by decide +kernel) [S] (by intro q hq; rw [List.mem_singleton.1 hq]; exact rootS.prm) (by decide +kernel) h
    (by intro q hq; rw [List.mem_singleton.1 hq, Nat.div_self (by decide +kernel), Pnt.smul_one]; exact hp) i h0 hi

end Obol
/- Roots modulo R: there are two at most; and the steps by which one is found (Tonelli and Shanks). -/
namespace Obol

theorem R_two : 2 < R := rootR.big
theorem pow_cong {a b : Nat} (n : Nat) (h : a % R = b % R) : a ^ n % R = b ^ n % R := by rw [Nat.pow_mod, h, ← Nat.pow_mod]
theorem mul_cong {a b c d : Nat} (h : a % R = b % R) (k : c % R = d % R) : a * c % R = b * d % R := by rw [Nat.mul_mod, h, k, ← Nat.mul_mod]

theorem two_roots {x y : Nat} (hx : x < R) (hy : y < R) (h : x * x % R = y * y % R) : x = y ∨ x + y = R := by
  have key : ∀ x y, y < x → x < R → x * x % R = y * y % R → x + y = R := by
    intro x y hlt hx h
    have e : (x - y) * (x + y) % R = 0 := by
      have e1 : (x - y) * (x + y) = x * x - y * y := by
        rw [Nat.mul_comm, Nat.mul_self_sub_mul_self_eq]
      rw [e1]
      have e2 := Nat.mul_le_mul (Nat.le_of_lt hlt) (Nat.le_of_lt hlt)
      have d1 := Nat.div_add_mod (x * x) R
      have d2 := Nat.div_add_mod (y * y) R
      have e3 : x * x - y * y = R * (x * x / R - y * y / R) := by
        rw [Nat.mul_sub]
        omega
      rw [e3, Nat.mul_mod_right]
    refine Classical.byContradiction fun hn => ?_
    refine rootR.nonzero (a := x - y) (b := x + y) ?_ ?_ e
    · rw [Nat.mod_eq_of_lt (by omega)]; omega
    · by_cases hl : x + y < R
      · rw [Nat.mod_eq_of_lt hl]; omega
      · rw [Nat.mod_eq_sub_mod (by omega), Nat.mod_eq_of_lt (by omega)]; omega
  rcases Nat.lt_trichotomy x y with g | g | g
  · right; rw [Nat.add_comm]; exact key y x g hy h.symm
  · exact .inl g
  · exact .inr (key x y g hx h)

theorem one_root {u : Nat} (hu : u < R) (h : u * u % R = 1) (h1 : u ≠ 1) : u = R - 1 := by
  have := R_two
  rcases two_roots (x := u) (y := 1) hu (by omega) (by rw [h, Nat.mul_one, Nat.mod_eq_of_lt (by omega)]) with e | e
  · exact absurd e h1
  · omega

theorem last_sq : (R - 1) * (R - 1) % R = 1 := by decide +kernel

theorem three_pow (n : Nat) (h : n < 2 ^ 64) (e : powm R 64 3 n = R - 1) : 3 ^ n % R = R - 1 := by rw [← powm_eq R 64 3 n h]; exact e

/-- What is known ahead of each round. -/
structure TS (a c t x w : Nat) : Prop where
  c_lt : c < R
  t_lt : t < R
  x_lt : x < R
  w_pos : 0 < w
  w_le : w ≤ 18
  root : x * x % R = a * t % R
  tp : t ^ (2 ^ (w - 1)) % R = 1
  cp : c ^ (2 ^ (w - 1)) % R = R - 1

def oddR : Nat := 1099511628295
def oddH : Nat := 549755814148
theorem odd_H : oddH + oddH = oddR + 1 := rfl
theorem odd_R {w : Nat} (hw : w = 18) : oddR * 2 ^ (w - 1) = (R - 1) / 2 := by subst hw; decide +kernel

theorem TS.init {a w : Nat} (hw : w = 18) (h : a ^ ((R - 1) / 2) % R = 1) :
    TS a (3 ^ oddR % R) (a ^ oddR % R) (a ^ oddH % R) w where
  c_lt := Nat.mod_lt _ (by decide +kernel)
  t_lt := Nat.mod_lt _ (by decide +kernel)
  x_lt := Nat.mod_lt _ (by decide +kernel)
  w_pos := by omega
  w_le := by omega
  root := by
    rw [← Nat.mul_mod, ← Nat.pow_add, Nat.mul_mod a, Nat.mod_mod, ← Nat.mul_mod, Nat.mul_comm a, ← Nat.pow_succ, odd_H]
  tp := by
    rw [← Nat.pow_mod, ← Nat.pow_mul, odd_R hw]
    exact h
  cp := by
    rw [← Nat.pow_mod, ← Nat.pow_mul, odd_R hw]
    exact three_pow _ (by decide +kernel) (by decide +kernel)

theorem sq_pow (t i : Nat) : t ^ 2 ^ i % R * (t ^ 2 ^ i % R) % R = t ^ 2 ^ (i + 1) % R := by
  rw [← Nat.mul_mod, ← Nat.pow_add, Nat.pow_succ]
  congr 2
  omega

theorem TS.step {a c t x w : Nat} (h : TS a c t x w) {i : Nat} (h0 : 0 < i) (hi : t ^ 2 ^ i % R = 1) (hm : ∀ j, j < i → t ^ 2 ^ j % R ≠ 1) {b : Nat} (hb : b = c ^ (2 ^ (w - i - 1)) % R) :
    i < w ∧ TS a (b * b % R) (t * (b * b % R) % R) (x * b % R) i := by
  have hRp : 0 < R := by decide +kernel
  have hiw : i < w := by
    refine Nat.lt_of_not_le fun hle => ?_
    exact hm (w - 1) (by have := h.w_pos; omega) h.tp
  have hw := h.w_le
  have cc : (b * b % R) ^ 2 ^ (i - 1) % R = R - 1 := by
    rw [← Nat.pow_mod, ← Nat.pow_two, ← Nat.pow_mul, hb, ← Nat.pow_mod, ← Nat.pow_mul]
    have : 2 ^ (w - i - 1) * (2 * 2 ^ (i - 1)) = 2 ^ (w - 1) := by
      rw [← Nat.pow_succ', ← Nat.pow_add]
      congr 1
      omega
    rw [this]
    exact h.cp
  have tt : t ^ 2 ^ (i - 1) % R = R - 1 := by
    refine one_root (Nat.mod_lt _ hRp) ?_ (hm (i - 1) (by omega))
    rw [sq_pow, show i - 1 + 1 = i by omega]
    exact hi
  refine ⟨hiw, Nat.mod_lt _ hRp, Nat.mod_lt _ hRp, Nat.mod_lt _ hRp, h0, by omega, ?_, ?_, cc⟩
  · have e1 : x * b % R * (x * b % R) % R = x * x * (b * b) % R := by
      rw [← Nat.mul_mod]
      congr 1
      simp only [Nat.mul_comm, Nat.mul_left_comm]
    have e2 : a * (t * (b * b % R) % R) % R = a * t * (b * b) % R := by
      rw [Nat.mul_mod a, Nat.mod_mod, ← Nat.mul_mod, ← Nat.mul_assoc, Nat.mul_mod, Nat.mod_mod, ← Nat.mul_mod]
    rw [e1, e2]
    exact mul_cong h.root rfl
  · rw [← Nat.pow_mod, Nat.mul_pow, Nat.mul_mod, tt, cc]
    exact last_sq

theorem TS.done {a c x w : Nat} (h : TS a c 1 x w) : x * x % R = a % R := by rw [h.root, Nat.mul_one]

/-- Has it a root? -/
def sqB (a : Nat) : Bool := a % R == 0 || a ^ ((R - 1) / 2) % R == 1

theorem sqB_iff (a : Nat) : sqB a = true ↔ ∃ x, x < R ∧ x * x % R = a % R := by
  unfold sqB
  simp only [Bool.or_eq_true, beq_iff_eq]
  constructor
  · rintro (h | h)
    · exact ⟨0, by decide +kernel, by rw [h]; decide +kernel⟩
    · by_cases h0 : a % R = 0
      · exact ⟨0, by decide +kernel, by rw [h0]; decide +kernel⟩
      · exact rootR.square (by decide +kernel) a h0 h
  · rintro ⟨x, hx, h⟩
    by_cases h0 : a % R = 0
    · exact .inl h0
    · exact .inr (rootR.euler (by decide +kernel) a x h0 h)

end Obol
/- The root that isn't above R / 2; the loops that find it. -/
namespace Obol

theorem R_odd : R % 2 = 1 := by decide +kernel
theorem half_unique {x y : Nat} (hx : 2 * x ≤ R) (hy : 2 * y ≤ R) (h : x * x % R = y * y % R) : x = y := by
  have h1 := R_two
  have h2 := R_odd
  rcases two_roots (x := x) (y := y) (by omega) (by omega) h with e | e
  · exact e
  · omega
theorem half_exists {a : Nat} (h : sqB a = true) : ∃ x, 2 * x ≤ R ∧ x * x % R = a % R := by
  obtain ⟨x, hx, e⟩ := (sqB_iff a).1 h
  by_cases h2 : 2 * x ≤ R
  · exact ⟨x, h2, e⟩
  · refine ⟨R - x, by omega, ?_⟩
    rw [← e]
    have h3 : (R - x) * (R - x) + (2 * R * x) = R * R + x * x := by
      obtain ⟨k, hk⟩ := Nat.exists_eq_add_of_le (Nat.le_of_lt hx)
      rw [hk, Nat.add_sub_cancel_left]
      grind
    have h4 : ((R - x) * (R - x) + R * (2 * x)) % R = (x * x + R * R) % R := by
      rw [show R * (2 * x) = 2 * R * x by grind, h3, Nat.add_comm]
    rw [Nat.add_mul_mod_self_left, Nat.add_mul_mod_self_left] at h4
    exact h4
open Classical in
noncomputable def rootN : Nat → Nat := (shut fun (a : Nat) => if h : sqB a = true then choose (half_exists h) else 0).1
theorem rootN_ok {a : Nat} (h : sqB a = true) : 2 * rootN a ≤ R ∧ rootN a * rootN a % R = a % R := by
  have e : rootN a = _ := congrFun (shut fun (a : Nat) => if h : sqB a = true then Classical.choose (half_exists h) else 0).2 a
  rw [e, dif_pos h]
  exact Classical.choose_spec (half_exists h)
theorem rootN_is {a x : Nat} (h : sqB a = true) (hx : 2 * x ≤ R) (e : x * x % R = a % R) : x = rootN a :=
  half_unique hx (rootN_ok h).1 (e.trans (rootN_ok h).2.symm)

noncomputable def powR : Nat → Nat → Nat := (shut fun a e : Nat => a ^ e % R).1
theorem powR_eq (a e : Nat) : powR a e = a ^ e % R := congrFun (congrFun (shut fun a e : Nat => a ^ e % R).2 a) e

/-- What is known ahead of each round. -/
structure RootI (a : Nat) (c t x w : Int) : Prop where
  c0 : 0 ≤ c
  t0 : 0 ≤ t
  x0 : 0 ≤ x
  w0 : 1 ≤ w
  w1 : w ≤ 18
  ts : TS a c.toNat t.toNat x.toNat w.toNat
structure RootS (t w : Nat) (i s : Int) : Prop where
  i0 : 0 ≤ i
  i1 : i < w
  s0 : 0 ≤ s
  eq : s.toNat = t ^ 2 ^ i.toNat % R
  no : ∀ j, j < i.toNat → t ^ 2 ^ j % R ≠ 1
structure RootB (c : Nat) (n b j : Int) : Prop where
  j0 : 0 ≤ j
  j1 : j ≤ n
  b0 : 0 ≤ b
  eq : b.toNat = c ^ 2 ^ j.toNat % R

theorem RootI.start {a : Int} (h : a.toNat ^ ((R - 1) / 2) % R = 1) :
    RootI a.toNat ((powR 3 oddR : Nat) : Int) ((powR a.toNat oddR : Nat) : Int) ((powR a.toNat oddH : Nat) : Int) 18 := by
  refine ⟨by omega, by omega, by omega, by omega, by omega, ?_⟩
  rw [Int.toNat_natCast, Int.toNat_natCast, Int.toNat_natCast, powR_eq, powR_eq, powR_eq]
  exact TS.init rfl h
theorem RootI.inner {a : Nat} {c t x w : Int} (h : RootI a c t x w) : RootS t.toNat w.toNat 0 t := by
  have := h.ts.w_pos
  refine ⟨by omega, by omega, h.t0, ?_, fun j hj => by omega⟩
  rw [show (0 : Int).toNat = 0 from rfl, Nat.pow_zero, Nat.pow_one, Nat.mod_eq_of_lt h.ts.t_lt]
theorem RootS.step {a : Nat} {c t x w i s : Int} (h : RootI a c t x w) (k : RootS t.toNat w.toNat i s) (hs : s ≠ 1) : RootS t.toNat w.toNat (i + 1) ((mulR s.toNat s.toNat : Nat) : Int) := by
  have i0 := k.i0
  have i1 := k.i1
  have s0 := k.s0
  have w0 := h.w0
  have he := k.eq
  have hne : t.toNat ^ 2 ^ i.toNat % R ≠ 1 := by rw [← he]; omega
  refine ⟨by omega, ?_, by omega, ?_, ?_⟩
  · refine Classical.byContradiction fun hn => hne ?_
    have : i.toNat = w.toNat - 1 := by omega
    rw [this]
    exact h.ts.tp
  · rw [Int.toNat_natCast, mulR_eq, mulQ, he, sq_pow, show (i + 1).toNat = i.toNat + 1 by omega]
  · intro j hj
    by_cases e : j = i.toNat
    · rw [e]; exact hne
    · exact k.no j (by omega)
theorem RootB.start {a : Nat} {c t x w n : Int} (h : RootI a c t x w) (hn : 0 ≤ n) : RootB c.toNat n c 0 := by
  refine ⟨by omega, hn, h.c0, ?_⟩
  rw [show (0 : Int).toNat = 0 from rfl, Nat.pow_zero, Nat.pow_one, Nat.mod_eq_of_lt h.ts.c_lt]
theorem RootB.step {c : Nat} {n b j : Int} (h : RootB c n b j) (hj : j < n) : RootB c n ((mulR b.toNat b.toNat : Nat) : Int) (j + 1) := by
  have j0 := h.j0
  refine ⟨by omega, by omega, by omega, ?_⟩
  rw [Int.toNat_natCast, mulR_eq, mulQ, h.eq, sq_pow, show (j + 1).toNat = j.toNat + 1 by omega]
theorem RootI.step {a : Nat} {c t x w i b j n : Int} (h : RootI a c t x w) (k : RootS t.toNat w.toNat i 1) (ht : t ≠ 1) (hn : n = w - i - 1) (g : RootB c.toNat n b j) (hj : ¬ j < n) :
    RootI a ((mulR b.toNat b.toNat : Nat) : Int) ((mulR t.toNat (mulR b.toNat b.toNat) : Nat) : Int) ((mulR x.toNat b.toNat : Nat) : Int) i ∧ i < w := by
  have t0 := h.t0
  have w0 := h.w0
  have w1 := h.w1
  have i0 := k.i0
  have i1 := k.i1
  have j1 := g.j1
  have he := k.eq
  have h0 : 0 < i.toNat := by
    refine Nat.pos_of_ne_zero fun e => ht ?_
    rw [e, Nat.pow_zero, Nat.pow_one, Nat.mod_eq_of_lt h.ts.t_lt] at he
    omega
  have hb : b.toNat = c.toNat ^ 2 ^ (w.toNat - i.toNat - 1) % R := by
    rw [g.eq]
    congr 2
    congr 1
    omega
  obtain ⟨hlt, ts⟩ := h.ts.step h0 (by rw [← he]; rfl) k.no hb
  refine ⟨⟨by omega, by omega, by omega, by omega, by omega, ?_⟩, by omega⟩
  rw [Int.toNat_natCast, Int.toNat_natCast, Int.toNat_natCast, mulR_eq]
  exact ts
theorem RootI.done {a : Nat} {c x w : Int} (h : RootI a c 1 x w) (ha : sqB a = true) (h0 : a % R ≠ 0) : x < R ∧ (if x < R - x then x else R - x) = ((rootN a : Nat) : Int) := by
  have x0 := h.x0
  have xl := h.ts.x_lt
  have hr := h.ts.root
  rw [show (1 : Int).toNat = 1 from rfl, Nat.mul_one] at hr
  have hp : x.toNat ≠ 0 := fun e => by
    rw [e, Nat.zero_mul, Nat.zero_mod] at hr
    exact h0 hr.symm
  have ho := rootN_ok ha
  refine ⟨by omega, ?_⟩
  rcases two_roots (x := x.toNat) (y := rootN a) xl (by have := R_two; omega) (hr.trans ho.2.symm) with e | e
  · split <;> omega
  · split <;> omega

end Obol
/- Plain law: the points of numbers: a number's lower 63 bits are Y, its highest bit tells X from R - X. No program in sight. -/
namespace Obol

/-- What X times X is, at a Y. -/
noncomputable def sqN (y : Nat) : Nat := overR (subR (mulR y y) 1) (addR 1 (mulR 439 (mulR y y)))
def codeN (p : Nat × Nat) : Nat := p.2 + p.1 % 2 * 9223372036854775808
def okN (x y odd : Nat) : Option (Nat × Nat) := if x % 2 = odd then .some (x, y) else Option.none
noncomputable def readN (n : Nat) : Option (Nat × Nat) :=
  if n % 9223372036854775808 < R ∧ sqB (sqN (n % 9223372036854775808)) = true then
    if rootN (sqN (n % 9223372036854775808)) % 2 = n / 9223372036854775808 then Option.some (rootN (sqN (n % 9223372036854775808)), n % 9223372036854775808)
    else okN (subR 0 (rootN (sqN (n % 9223372036854775808)))) (n % 9223372036854775808) (n / 9223372036854775808)
  else Option.none

theorem down_ne (Y : Fr) : 1 + K.d * (Y * Y) ≠ 0 := by
  intro h
  have h1 : K.i * K.i = -1 := K.i2
  have e : (K.d * Y) * (K.d * Y) = -K.d * (1 * 1) := by grind
  have := K.nonsq e
  exact K.ne this

theorem sqN_val (Y : Fr) : sqN Y.val = ((Y * Y - 1) * K.inv (1 + K.d * (Y * Y))).val := by
  unfold sqN
  rw [mulR_val, ← d_val, mulR_val, ← one_val, subR_val, addR_val, overR_val]

theorem on_side (X Y : Fr) : X * X = (Y * Y - 1) * K.inv (1 + K.d * (Y * Y)) ↔ K.On X Y := by
  have hn := down_ne Y
  have hi := K.inv_mul _ hn
  unfold Ground.On
  constructor
  · intro h
    have : X * X * (1 + K.d * (Y * Y)) = Y * Y - 1 := by
      rw [h]
      generalize K.inv (1 + K.d * (Y * Y)) = v at *
      have : (Y * Y - 1) * v * (1 + K.d * (Y * Y)) = (Y * Y - 1) * ((1 + K.d * (Y * Y)) * v) := by grind
      rw [this, hi]
      grind
    grind
  · intro h
    apply K.cancel hn
    generalize K.inv (1 + K.d * (Y * Y)) = v at *
    have : (1 + K.d * (Y * Y)) * ((Y * Y - 1) * v) = ((1 + K.d * (Y * Y)) * v) * (Y * Y - 1) := by grind
    rw [this, hi]
    grind

theorem is_sq {x y : Nat} (hx : x < R) (hy : y < R) : isN (x, y) = true ↔ x * x % R = sqN y % R := by
  have h := on_side ⟨x, hx⟩ ⟨y, hy⟩
  have h2 := on_iff ⟨x, hx⟩ ⟨y, hy⟩
  rw [← h2, ← h]
  have hv := sqN_val ⟨y, hy⟩
  show _ ↔ x * x % R = sqN (⟨y, hy⟩ : Fr).val % R
  rw [hv, lt_mod (Fin.isLt _)]
  constructor
  · intro e
    have := congrArg Fin.val e
    exact this
  · intro e
    exact Fin.ext e

theorem sub0 {x : Nat} (h : 2 * x ≤ R) : subR 0 x = if x = 0 then 0 else R - x := by
  rw [subR_eq, subQ]
  have hR := R_pos
  have := R_odd
  split
  · rename_i h0
    subst h0
    simp
  · rw [Nat.zero_mod, lt_mod (by omega : x < R), Nat.zero_add, lt_mod (by omega)]

theorem root_nil {a : Nat} (h : a % R = 0) : rootN a = 0 := by
  have hs : sqB a = true := by unfold sqB; rw [h]; rfl
  exact (rootN_is hs (x := 0) (by omega) (by rw [h]; rfl)).symm

theorem sqN_lt (y : Nat) : sqN y < R := by unfold sqN overR; exact mulR_lt _ _

/-- Whether there is a point of a number. -/
noncomputable def hasN (n : Nat) : Bool := decide (n % 9223372036854775808 < R) && (sqB (sqN (n % 9223372036854775808)) && (sqN (n % 9223372036854775808) != 0 || !decide (n ≥ 9223372036854775808)))

theorem neg_sq {x : Nat} (h : x ≤ R) : (R - x) * (R - x) % R = x * x % R := by
  have : (R - x) * (R - x) + 2 * x * R = x * x + R * R := by
    obtain ⟨z, hz⟩ : ∃ z, R = x + z := ⟨R - x, by omega⟩
    rw [hz]
    have : x + z - x = z := by omega
    rw [this]
    grind
  have h1 := congrArg (· % R) this
  simp only [Nat.add_mul_mod_self_right] at h1
  exact h1

theorem read_is (n : Nat) (h64 : n < 18446744073709551616) : (readN n).isSome = hasN n ∧ ∀ p, readN n = some p → isN p = true ∧ p.1 < R ∧ p.2 < R ∧ p.2 = n % 9223372036854775808 ∧ p.1 % 2 = n / 9223372036854775808 := by
  have hoddR := R_odd
  by_cases hy : n % 9223372036854775808 < R
  · cases hs : sqB (sqN (n % 9223372036854775808))
    · have e : readN n = Option.none := by unfold readN; rw [hs]; simp
      have e2 : hasN n = false := by unfold hasN; rw [hs]; simp
      rw [e, e2]
      exact ⟨rfl, fun p h => by cases h⟩
    · obtain ⟨r1, r2⟩ := rootN_ok hs
      obtain ⟨x, hx⟩ : ∃ x, x = rootN (sqN (n % 9223372036854775808)) := ⟨_, rfl⟩
      have hlt := sqN_lt (n % 9223372036854775808)
      have e : readN n = if x % 2 = n / 9223372036854775808 then some (x, n % 9223372036854775808) else okN (subR 0 x) (n % 9223372036854775808) (n / 9223372036854775808) := by
        unfold readN
        rw [if_pos ⟨hy, hs⟩, hx]
      have e2 : hasN n = (sqN (n % 9223372036854775808) != 0 || !decide (n ≥ 9223372036854775808)) := by unfold hasN; rw [hs, decide_eq_true hy]; simp
      rw [← hx] at r1 r2
      have hz : sqN (n % 9223372036854775808) = 0 ↔ x = 0 := by
        constructor
        · intro h
          rw [hx]
          exact root_nil (by rw [h]; rfl)
        · intro h
          rw [h, lt_mod hlt] at r2
          simpa using r2.symm
      have hxR : x < R := by omega
      rw [e, e2, sub0 r1]
      by_cases hx0 : x = 0
      · have hq := hz.2 hx0
        rw [hq, hx0]
        unfold okN
        by_cases ho : n ≥ 9223372036854775808
        · have : n / 9223372036854775808 = 1 := by omega
          simp [this, ho]
        · have : n / 9223372036854775808 = 0 := by omega
          simp [this, ho]
          refine ⟨(is_sq (by omega) (by omega)).2 (by rw [hq]), by omega, hy⟩
      · have hq : sqN (n % 9223372036854775808) ≠ 0 := fun h => hx0 (hz.1 h)
        have hqb : (sqN (n % 9223372036854775808) != 0) = true := bne_iff_ne.2 hq
        rw [hqb, Bool.true_or, if_neg hx0]
        by_cases hp : x % 2 = n / 9223372036854775808
        · rw [if_pos hp]
          refine ⟨rfl, fun p h => ?_⟩
          cases h
          exact ⟨(is_sq hxR hy).2 r2, hxR, hy, rfl, hp⟩
        · rw [if_neg hp]
          unfold okN
          rw [if_pos (by omega)]
          refine ⟨rfl, fun p h => ?_⟩
          cases h
          refine ⟨(is_sq (by omega) hy).2 ?_, by omega, hy, rfl, by omega⟩
          rw [neg_sq (by omega)]
          exact r2
  · have e : readN n = Option.none := by unfold readN; rw [if_neg (fun h => hy h.1)]
    have e2 : hasN n = false := by unfold hasN; rw [decide_eq_false hy]; rfl
    rw [e, e2]
    exact ⟨rfl, fun p h => by cases h⟩

theorem read_code {p : Nat × Nat} (h : isN p = true) : readN (codeN p) = some p := by
  obtain ⟨x, y⟩ := p
  have h' := h
  unfold isN at h'
  simp only [Bool.and_eq_true, decide_eq_true_eq] at h'
  have hx : x < R := h'.1.1
  have hy : y < R := h'.1.2
  have hRR : R < 9223372036854775808 := by decide +kernel
  have hoddR := R_odd
  have e1 : codeN (x, y) % 9223372036854775808 = y := by unfold codeN; simp only; omega
  have e2 : codeN (x, y) / 9223372036854775808 = x % 2 := by unfold codeN; simp only; omega
  have hq := (is_sq hx hy).1 h
  have hs : sqB (sqN y) = true := (sqB_iff _).2 ⟨x, hx, hq⟩
  obtain ⟨r1, r2⟩ := rootN_ok hs
  have hr := two_roots (x := rootN (sqN y)) (y := x) (by omega) hx (by rw [r2, hq])
  unfold readN
  rw [e1, e2, if_pos ⟨hy, hs⟩]
  rcases hr with hr | hr
  · rw [hr, if_pos rfl]
  · rw [sub0 r1]
    by_cases h0 : rootN (sqN y) = 0
    · omega
    · rw [if_neg (by omega), if_neg h0]
      unfold okN
      have : R - rootN (sqN y) = x := by omega
      rw [this, if_pos rfl]

/-! the bytes -/
def be8 (n : Nat) : List Nat := [n / 72057594037927936 % 256, n / 281474976710656 % 256, n / 1099511627776 % 256, n / 4294967296 % 256, n / 16777216 % 256, n / 65536 % 256, n / 256 % 256, n % 256]
def num8 : List Nat → Nat := fun l => l.foldl (fun n c => 256 * n + c) 0
theorem num_be (n : Nat) (h : n < 18446744073709551616) : num8 (be8 n) = n := by
  simp only [num8, be8, List.foldl]
  omega
theorem be_num {a b c d e f g h : Nat} (ha : a < 256) (hb : b < 256) (hc : c < 256) (hd : d < 256) (he : e < 256) (hf : f < 256) (hg : g < 256) (hh : h < 256) : be8 (num8 [a, b, c, d, e, f, g, h]) = [a, b, c, d, e, f, g, h] := by
  simp only [num8, be8, List.foldl]
  simp only [List.cons.injEq, and_true]
  omega
theorem num_lt : ∀ (l : List Nat) (n : Nat) (_ : ∀ x ∈ l, x < 256), l.foldl (fun n c => 256 * n + c) n < (n + 1) * 256 ^ l.length
  | [], n, _ => by simp
  | c :: l, n, h => by
    have h1 := num_lt l (256 * n + c) (fun x hx => h x (List.mem_cons_of_mem _ hx))
    have h2 := h c (List.mem_cons_self ..)
    rw [List.foldl_cons, List.length_cons, Nat.pow_succ]
    refine Nat.lt_of_lt_of_le h1 ?_
    rw [Nat.mul_comm (256 ^ l.length) 256, ← Nat.mul_assoc]
    exact Nat.mul_le_mul_right _ (by omega)
theorem num8_lt {l : List Nat} (h : ∀ x ∈ l, x < 256) (hl : l.length = 8) : num8 l < 18446744073709551616 := by
  have := num_lt l 0 h
  rw [hl] at this
  simpa [num8] using this
theorem be_num8 {l : List Nat} (h : ∀ x ∈ l, x < 256) (hl : l.length = 8) : be8 (num8 l) = l := by
  match l, hl with
  | [a, b, c, d, e, f, g, i], _ =>
    simp only [List.mem_cons, List.not_mem_nil, or_false, forall_eq_or_imp, forall_eq] at h
    exact be_num h.1 h.2.1 h.2.2.1 h.2.2.2.1 h.2.2.2.2.1 h.2.2.2.2.2.1 h.2.2.2.2.2.2.1 h.2.2.2.2.2.2.2
theorem be_lt (n : Nat) : ∀ x ∈ be8 n, x < 256 := by
  intro x hx
  simp only [be8, List.mem_cons, List.not_mem_nil, or_false] at hx
  omega

end Obol
