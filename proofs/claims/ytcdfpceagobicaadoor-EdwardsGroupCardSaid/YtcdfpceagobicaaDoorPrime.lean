import Derived.Test.YtcdfpceagobicaaDoorNum
/- The three primes, each with a root of full order: by the primes of what is one less. -/
namespace Obol

def R : Nat := 288230376287764481
def S : Nat := 72057593894066549
def P : Nat := 1152921505151057923

theorem R_def : R = 288230376287764481 := rfl
theorem S_def : S = 72057593894066549 := rfl
theorem P_def : P = 1152921505151057923 := rfl

theorem prm_list {l : List (Nat × Nat)} (h : l.all (fun x => decide (1 < x.1) && none x.2 2 x.1 && decide (x.1 < (x.2 + 2) * (x.2 + 2))) = true) :
    ∀ q, q ∈ l.map (·.1) → Prm q := by
  intro q hq
  obtain ⟨x, hx, rfl⟩ := List.mem_map.1 hq
  have := List.all_eq_true.1 h x hx
  simp only [Bool.and_eq_true, decide_eq_true_eq] at this
  exact prm_of x.2 x.1 this.1.1 this.1.2 this.2

theorem root_of (N g : Nat) (l : List (Nat × Nat)) (hN : 2 < N) (hl : N - 1 < 2 ^ 62)
    (h : l.all (fun x => decide (1 < x.1) && none x.2 2 x.1 && decide (x.1 < (x.2 + 2) * (x.2 + 2))) = true)
    (hf : (l.map (·.1)).foldr (· * ·) 1 = N - 1) (h1 : powm N 62 g (N - 1) = 1)
    (hq : l.all (fun x => powm N 62 g ((N - 1) / x.1) != 1) = true) : Root N g := by
  have e1 : g ^ (N - 1) % N = 1 := by rw [← powm_eq N 62 g (N - 1) hl]; exact h1
  refine ⟨hN, e1, order_of N g hN (l.map (·.1)) (prm_list h) hf e1 ?_⟩
  intro q hq'
  obtain ⟨x, hx, rfl⟩ := List.mem_map.1 hq'
  have := List.all_eq_true.1 hq x hx
  simp only [bne_iff_ne, ne_eq] at this
  rw [powm_eq N 62 g ((N - 1) / x.1) (Nat.lt_of_le_of_lt (Nat.div_le_self _ _) hl)] at this
  exact this

theorem rootR : Root R 3 := root_of R 3 ((List.replicate 18 (2, 0)) ++ [(5, 1), (587, 23), (619, 23), (769, 26), (787, 27)]) (by decide +kernel) (by decide +kernel) (by decide +kernel) (by decide +kernel) (by decide +kernel) (by decide +kernel)
theorem rootS : Root S 2 := root_of S 2 [(2, 0), (2, 0), (67, 7), (317, 16), (57251, 238), (14815033, 3848)] (by decide +kernel) (by decide +kernel) (by decide +kernel) (by decide +kernel) (by decide +kernel) (by decide +kernel)
theorem rootP : Root P 2 := root_of P 2 [(2, 0), (3, 0), (3, 0), (7, 1), (1879, 42), (1368181, 1168), (3559253, 1885)] (by decide +kernel) (by decide +kernel) (by decide +kernel) (by decide +kernel) (by decide +kernel) (by decide +kernel)

end Obol
