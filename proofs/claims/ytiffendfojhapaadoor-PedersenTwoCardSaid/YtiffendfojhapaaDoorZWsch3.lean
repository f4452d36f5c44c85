import Derived.Test.YtiffendfojhapaaDoorZWver
import Derived.Test.YtiffendfojhapaaDoorZWrsum
set_option linter.unusedVariables false
set_option linter.unusedSimpArgs false
/- Walks: package schnorr: turned keys; the statements' own question; the reference's sums and multiples as points. -/
namespace Go.Proofs.YtiffendfojhapaaDoor
open Go.RowKit

/-! the reference, as points -/
theorem rTimes (x y k : Int) (x0 : 0 ≤ x) (y0 : 0 ≤ y) (k0 : 0 ≤ k) (k1 : k ≤ 18446744073709551615) (P : Obol.Pt) (hP : ptV P = edV x y) (w : World) :
    Calls Tryd.prog 23 #[edV x y, .int .u64 k] w fun e w' => e = .returned (ptV (Obol.Pnt.smul k.toNat P)) ∧ Below w.heap.size w w' := by
  have h := r7Times x y k x0 y0 k0 k1 w
  rw [n_of hP x0 y0, Obol.times_n P k.toNat (by omega)] at h
  exact h
theorem rSum (x y x' y' : Int) (x0 : 0 ≤ x) (y0 : 0 ≤ y) (x0' : 0 ≤ x') (y0' : 0 ≤ y') (P Q : Obol.Pt) (hP : ptV P = edV x y) (hQ : ptV Q = edV x' y') (w : World) :
    Calls Tryd.prog 31 #[edV x y, edV x' y'] w fun e w' => e = .returned (ptV (P.add Q)) ∧ Below w.heap.size w w' := by
  have h := r7Sum x y x' y' x0 y0 x0' y0' w
  rw [n_of hP x0 y0, n_of hQ x0' y0', Obol.sum_n] at h
  exact h
theorem r7Gen (w : World) :
    Calls Tryd.prog 24 #[] w fun e w' => e = .returned (edV 223588670687113535 82055451961885530) ∧ Below w.heap.size w w' := by
  go_enter Tryd.func24, Tryd.ntmps24
  go_wp2_with fail
  refine bodyPost_ret (v := edV 223588670687113535 82055451961885530) (by simp [results, Tryd.results24, go_sem]) rfl ⟨rfl, ?_⟩
  repeat (first | exact Below.refl _ _ | assumption | apply bDrewN | apply bDrew | apply bAlloc | refine bSet ?_ (by omega) | refine bThen ?_ (by assumption) (by simp <;> omega))
theorem genV : ptV Obol.G = edV 223588670687113535 82055451961885530 := by
  have h := Obol.G_n
  have h1 : Obol.G.x.val = 223588670687113535 := congrArg Prod.fst h
  have h2 : Obol.G.y.val = 82055451961885530 := congrArg Prod.snd h
  show edV _ _ = _
  rw [h1, h2]
  rfl
theorem rTimesG (k : Int) (k0 : 0 ≤ k) (k1 : k ≤ 18446744073709551615) (w : World) :
    Calls Tryd.prog 23 #[edV 223588670687113535 82055451961885530, .int .u64 k] w fun e w' => e = .returned (ptV (Obol.Pnt.smul k.toNat Obol.G)) ∧ Below w.heap.size w w' :=
  rTimes _ _ k (by omega) (by omega) k0 k1 Obol.G genV w

/-! turned keys -/
theorem sTurnK (k t : Int) (k0 : 0 ≤ k) (h : ¬ (1 ≤ k ∧ k < 72057593894066549)) (w : World) :
    Calls Tryd.prog 32 #[.int .u64 k, .int .u64 t] w fun e w' => e = .returned (.tuple #[.int .u64 0, errC 1]) ∧ w' = w := by
  go_enter Tryd.func32, Tryd.ntmps32
  go_wp2_with (go_at_call 47; refine (sKeyN _ k0 h _).mono ?_; rintro e w1 ⟨rfl, rfl⟩)
  go_ret2
  exact ⟨rfl, rfl⟩
theorem sTurnT (k t : Int) (h1 : 1 ≤ k) (h2 : k < 72057593894066549) (t1 : 72057593894066549 ≤ t) (w : World) :
    Calls Tryd.prog 32 #[.int .u64 k, .int .u64 t] w fun e w' => e = .returned (.tuple #[.int .u64 0, errC 1]) ∧ w' = w := by
  go_enter Tryd.func32, Tryd.ntmps32
  go_wp2_with (go_at_call 47; refine (sKeyY _ h1 h2 _).mono ?_; rintro e w1 ⟨rfl, rfl⟩)
  go_ret2
  exact ⟨rfl, rfl⟩
theorem sTurnZ (k t : Int) (h1 : 1 ≤ k) (h2 : k < 72057593894066549) (t0 : 0 ≤ t) (t1 : t < 72057593894066549) (hz : Obol.addM 72057593894066549 k.toNat t.toNat = 0) (w : World) :
    Calls Tryd.prog 32 #[.int .u64 k, .int .u64 t] w fun e w' => e = .returned (.tuple #[.int .u64 0, errC 7]) ∧ ∃ n, w' = w.drewN n := by
  have hc := fun w => mAdd 72057593894066549 k t (by omega) (by omega) (by omega) t0 w
  rw [litSn, hz] at hc
  replace hc := Lib.hid hc
  clear hz
  go_enter Tryd.func32, Tryd.ntmps32
  go_wp2_with (first
    | (go_at_call 47; refine (sKeyY _ h1 h2 _).mono ?_; rintro e w1 ⟨rfl, rfl⟩)
    | (go_at_call 50; refine (hc.out _).mono ?_; rintro e w' ⟨rfl, n, rfl⟩))
  go_ret2
  exact ⟨rfl, _, rfl⟩
theorem sTurnY (k t : Int) (h1 : 1 ≤ k) (h2 : k < 72057593894066549) (t0 : 0 ≤ t) (t1 : t < 72057593894066549) (hz : Obol.addM 72057593894066549 k.toNat t.toNat ≠ 0) (w : World) :
    Calls Tryd.prog 32 #[.int .u64 k, .int .u64 t] w fun e w' => e = .returned (.tuple #[.int .u64 ((Obol.addM 72057593894066549 k.toNat t.toNat : Nat) : Int), .nilIface]) ∧ ∃ n, w' = w.drewN n := by
  have hc := fun w => mAdd 72057593894066549 k t (by omega) (by omega) (by omega) t0 w
  rw [litSn] at hc
  obtain ⟨z, hz'⟩ : ∃ z : Int, ((Obol.addM 72057593894066549 k.toNat t.toNat : Nat) : Int) = z := ⟨_, rfl⟩
  rw [hz'] at hc ⊢
  have hne : ¬ z = 0 := by omega
  replace hc := Lib.hid hc
  clear hz hz'
  go_enter Tryd.func32, Tryd.ntmps32
  go_wp2_with (first
    | (go_at_call 47; refine (sKeyY _ h1 h2 _).mono ?_; rintro e w1 ⟨rfl, rfl⟩)
    | (go_at_call 50; refine (hc.out _).mono ?_; rintro e w' ⟨rfl, n, rfl⟩))
  go_ret2
  exact ⟨rfl, _, rfl⟩

theorem sTpI (x y t : Int) (x0 : 0 ≤ x) (y0 : 0 ≤ y) (h : inN (x.toNat, y.toNat) = false) (w : World) :
    Calls Tryd.prog 33 #[edV x y, .int .u64 t] w fun e w' => e = .returned (.tuple #[edV 0 0, errC 1]) ∧ Below w.heap.size w w' := by
  have hI := fun w => eIn x y x0 y0 w
  rw [h] at hI
  replace hI := Lib.hid hI
  clear h
  go_enter Tryd.func33, Tryd.ntmps33
  go_wp2_with (go_at_call 54; refine (hI.out _).mono ?_; rintro e w1 ⟨rfl, hb⟩; obtain ⟨hc, hf⟩ := bcell hb; have hz := hb.size; (try simp at hz))
  refine bodyPost_ret (v := .tuple #[edV 0 0, errC 1]) (by simp [results, Tryd.results33, go_sem, hc]) rfl ⟨rfl, ?_⟩
  repeat (first | exact Below.refl _ _ | assumption | apply bDrewN | apply bDrew | apply bAlloc | refine bSet ?_ (by omega) | refine bThen ?_ (by assumption) (by simp <;> omega))
theorem sTpT (x y t : Int) (x0 : 0 ≤ x) (y0 : 0 ≤ y) (h : inN (x.toNat, y.toNat) = true) (t1 : 72057593894066549 ≤ t) (w : World) :
    Calls Tryd.prog 33 #[edV x y, .int .u64 t] w fun e w' => e = .returned (.tuple #[edV 0 0, errC 1]) ∧ Below w.heap.size w w' := by
  have hI := fun w => eIn x y x0 y0 w
  rw [h] at hI
  replace hI := Lib.hid hI
  clear h
  go_enter Tryd.func33, Tryd.ntmps33
  go_wp2_with (go_at_call 54; refine (hI.out _).mono ?_; rintro e w1 ⟨rfl, hb⟩; obtain ⟨hc, hf⟩ := bcell hb; have hz := hb.size; (try simp at hz))
  refine bodyPost_ret (v := .tuple #[edV 0 0, errC 1]) (by simp [results, Tryd.results33, go_sem, hc]) rfl ⟨rfl, ?_⟩
  repeat (first | exact Below.refl _ _ | assumption | apply bDrewN | apply bDrew | apply bAlloc | refine bSet ?_ (by omega) | refine bThen ?_ (by assumption) (by simp <;> omega))
set_option maxRecDepth 8000 in
set_option maxHeartbeats 1000000 in
theorem sTpY (x y t : Int) (x0 : 0 ≤ x) (y0 : 0 ≤ y) (P : Obol.Pt) (hP : ptV P = edV x y) (hS : Obol.Pnt.smul 72057593894066549 P = Obol.Pnt.zero) (t0 : 0 ≤ t) (t1 : t < 72057593894066549) (w : World) :
    Calls Tryd.prog 33 #[edV x y, .int .u64 t] w fun e w' => e = .returned (.tuple #[ptV (P.add (Obol.Pnt.smul t.toNat Obol.G)), .nilIface]) ∧ Below w.heap.size w w' := by
  have hI := Lib.hid (gIn x y x0 y0 P hP hS)
  have hcT := fun w => sPoint t t0 (by omega) w
  obtain ⟨tx, ty, tx0, ty0, -, -, hvT, hnT⟩ := coordsN (Obol.Pnt.smul t.toNat Obol.G)
  rw [hvT] at hcT
  have hcA := fun w => gAdd x y tx ty x0 y0 tx0 ty0 w
  rw [n_of hP x0 y0, hnT, Obol.of_n, Obol.of_n] at hcA
  obtain ⟨ax, ay, -, -, -, -, hvA, -⟩ := coordsN (P.add (Obol.Pnt.smul t.toNat Obol.G))
  rw [hvA] at hcA
  have HV := Lib.hid hvA
  replace hcA := Lib.hid hcA
  replace hcT := Lib.hid hcT
  clear hvA hvT hnT hP hS
  go_enter Tryd.func33, Tryd.ntmps33
  go_wp2_with fail
  have H0 := Lib.hid (((HR.refl w).new #[.int .u64 x, .int .u64 y] 37).new #[.int .u64 0, .int .u64 0] 37)
  rw [World.size_alloc] at H0
  generalize (w.alloc (.cells #[.int .u64 x, .int .u64 y] 37)).alloc (.cells #[.int .u64 0, .int .u64 0] 37) = w2 at H0 ⊢
  obtain ⟨b4, hb4⟩ : ∃ b, w.heap.size + 1 = b := ⟨_, rfl⟩
  rw [hb4] at H0 ⊢
  have hne : w.heap.size < b4 := by omega
  replace hb4 := Lib.hid hb4
  generalize hb2 : w.heap.size = b2 at H0 hne ⊢
  replace hb2 := Lib.hid hb2
  refine (hI.out _).mono ?_
  rintro e w3 ⟨rfl, hb⟩
  have H1 := Lib.hid (H0.out.next hb)
  clear hb H0
  have c_b4_0 := H1.out.cell (b := b4) (cs := #[.int .u64 0, .int .u64 0]) (t := 37) (by simp) 0 rfl
  have c_b4_1 := H1.out.cell (b := b4) (cs := #[.int .u64 0, .int .u64 0]) (t := 37) (by simp) 1 rfl
  have c_b2_0 := H1.out.cell (b := b2) (cs := #[.int .u64 x, .int .u64 y]) (t := 37) (by simp) 0 rfl
  have c_b2_1 := H1.out.cell (b := b2) (cs := #[.int .u64 x, .int .u64 y]) (t := 37) (by simp) 1 rfl
  have f_b4_0 := H1.out.free (b := b4) (cs := #[.int .u64 0, .int .u64 0]) (t := 37) (by simp) 0
  have f_b4_1 := H1.out.free (b := b4) (cs := #[.int .u64 0, .int .u64 0]) (t := 37) (by simp) 1
  go_wp2_with fail
  have H1t := Lib.hid (H1.out.tail)
  have H1s := H1.out
  refine wp_region_noPanic ?_
  refine wp_region_held_drew (S := fun wq => wq.cell? ⟨b2, 0, none⟩ = some (.int .u64 x) ∧ wq.cell? ⟨b2, 1, none⟩ = some (.int .u64 y) ∧ HR w wq [(b2, #[.int .u64 x, .int .u64 y], 37)]) (by kernel_rfl) ?_ (fun hHeld => ?_)
  · have hq0 := HR.drew H1t.out
    exact ⟨HR.cell hq0 (b := b2) (cs := #[.int .u64 x, .int .u64 y]) (t := 37) (by simp) 0 rfl, HR.cell hq0 (b := b2) (cs := #[.int .u64 x, .int .u64 y]) (t := 37) (by simp) 1 rfl, hq0⟩
  refine takeH 0 (fun _ _ _ _ _ h => h) (by kernel_rfl) hHeld rfl (by kernel_rfl) (by rfl) (v := ?_) ?_ ?_
  rotate_left
  ((intro wz hz; (try dsimp only at hz); go_simp) <;> with_reducible rfl)
  try simp only [Act.put, List.setIfInBounds_toArray, List.set_cons_zero, List.set_cons_succ]
  refine takeH 1 (fun _ _ _ _ _ h => h) (by kernel_rfl) hHeld rfl (by kernel_rfl) (by rfl) (v := ?_) ?_ ?_
  rotate_left
  ((intro wz hz; (try dsimp only at hz); go_simp) <;> with_reducible rfl)
  try simp only [Act.put, List.setIfInBounds_toArray, List.set_cons_zero, List.set_cons_succ]
  refine stepH 2 (by kernel_rfl) rfl (by rfl) (fun K hK => ?_)
  go_simp
  refine (hcT.out _).mono ?_
  rintro e wc1 ⟨rfl, hbc1⟩
  have hrc1 := HR.next hHeld.2.2 hbc1
  have hz1 := HR.next (HR.drew H1s) hbc1
  refine hK.out _ _ ?_ (fun hHeld => ?_)
  · exact ⟨HR.cell hrc1 (b := b2) (cs := #[.int .u64 x, .int .u64 y]) (t := 37) (by simp) 0 rfl, HR.cell hrc1 (b := b2) (cs := #[.int .u64 x, .int .u64 y]) (t := 37) (by simp) 1 rfl, hrc1⟩
  clear hK K
  try simp only [Act.put, List.setIfInBounds_toArray, List.set_cons_zero, List.set_cons_succ]
  refine stepH 3 (by kernel_rfl) rfl (by rfl) (fun K hK => ?_)
  go_simp
  refine (hcA.out _).mono ?_
  rintro e wc2 ⟨rfl, hbc2⟩
  have hrc2 := HR.next hHeld.2.2 hbc2
  have hz2 := HR.next hz1 hbc2
  refine hK.out _ _ ?_ (fun hHeld => ?_)
  · exact ⟨HR.cell hrc2 (b := b2) (cs := #[.int .u64 x, .int .u64 y]) (t := 37) (by simp) 0 rfl, HR.cell hrc2 (b := b2) (cs := #[.int .u64 x, .int .u64 y]) (t := 37) (by simp) 1 rfl, hrc2⟩
  clear hK K
  try simp only [Act.put, List.setIfInBounds_toArray, List.set_cons_zero, List.set_cons_succ]
  have s0 := hz2.cell (b := b4) (cs := #[.int .u64 0, .int .u64 0]) (t := 37) (by simp) 0 rfl
  have s1 := hz2.cell (b := b4) (cs := #[.int .u64 0, .int .u64 0]) (t := 37) (by simp) 1 rfl
  have g0 := hz2.free (b := b4) (cs := #[.int .u64 0, .int .u64 0]) (t := 37) (by simp) 0
  have g1 := hz2.free (b := b4) (cs := #[.int .u64 0, .int .u64 0]) (t := 37) (by simp) 1
  refine stepH 4 (by kernel_rfl) rfl (by rfl) (fun K hK => ?_)
  go_simp
  refine hK.out _ _ ?_ (fun hHeld => ?_)
  · exact ⟨HR.cell (HR.like (HR.other (HR.other (hz2.tail) (D := b4) (o := 0) (v := .int .u64 ax) (by simp; omega) (by have := hb4.out; omega)) (D := b4) (o := 1) (v := .int .u64 ay) (by simp; omega) (by have := hb4.out; omega)) rfl rfl rfl rfl) (b := b2) (cs := #[.int .u64 x, .int .u64 y]) (t := 37) (by simp) 0 rfl, HR.cell (HR.like (HR.other (HR.other (hz2.tail) (D := b4) (o := 0) (v := .int .u64 ax) (by simp; omega) (by have := hb4.out; omega)) (D := b4) (o := 1) (v := .int .u64 ay) (by simp; omega) (by have := hb4.out; omega)) rfl rfl rfl rfl) (b := b2) (cs := #[.int .u64 x, .int .u64 y]) (t := 37) (by simp) 1 rfl, (HR.like (HR.other (HR.other (hz2.tail) (D := b4) (o := 0) (v := .int .u64 ax) (by simp; omega) (by have := hb4.out; omega)) (D := b4) (o := 1) (v := .int .u64 ay) (by simp; omega) (by have := hb4.out; omega)) rfl rfl rfl rfl)⟩
  clear hK K
  try simp only [Act.put, List.setIfInBounds_toArray, List.set_cons_zero, List.set_cons_succ]
  refine takeH 5 (fun _ _ _ _ _ h => h) (by kernel_rfl) hHeld rfl (by kernel_rfl) (by rfl) (v := ?_) ?_ ?_
  rotate_left
  ((intro wz hz; (try dsimp only at hz); go_simp) <;> with_reducible rfl)
  try simp only [Act.put, List.setIfInBounds_toArray, List.set_cons_zero, List.set_cons_succ]
  refine wpAnyH_done (by kernel_rfl) (NoPanic.normal ?_) _
  have HB := Lib.hid (hHeld.2.2.2)
  clear hHeld
  go_wp2_with fail
  refine bodyPost_ret (v := .tuple #[edV ax ay, .nilIface]) (by simp [results, Tryd.results33, go_sem, s0, s1]) rfl ⟨by rw [HV.out], HB.out⟩

/-! what Sign refuses -/
theorem sSignK (k n : Int) (k0 : 0 ≤ k) (h : ¬ (1 ≤ k ∧ k < 72057593894066549)) (ao : Option Addr) (len cap : Nat) (w : World) :
    Calls Tryd.prog 25 #[.int .u64 k, .int .u64 n, .slice ao len cap] w fun e w' => e = .returned (.tuple #[.agg #[.int .u64 0, .int .u64 0, .int .u64 0], errC 1]) ∧ Below w.heap.size w w' := by
  go_enter Tryd.func25, Tryd.ntmps25
  go_wp2_with (go_at_call 47; refine (sKeyN _ k0 h _).mono ?_; rintro e w1 ⟨rfl, rfl⟩)
  refine bodyPost_ret (v := .tuple #[.agg #[.int .u64 0, .int .u64 0, .int .u64 0], errC 1]) (by simp [results, Tryd.results25, go_sem]) rfl ⟨rfl, ?_⟩
  repeat (first | exact Below.refl _ _ | assumption | apply bDrewN | apply bDrew | apply bAlloc | refine bSet ?_ (by omega) | refine bThen ?_ (by assumption) (by simp <;> omega))
theorem sSignN (k n : Int) (h1 : 1 ≤ k) (h2 : k < 72057593894066549) (n0 : 0 ≤ n) (h : ¬ (1 ≤ n ∧ n < 72057593894066549)) (ao : Option Addr) (len cap : Nat) (w : World) :
    Calls Tryd.prog 25 #[.int .u64 k, .int .u64 n, .slice ao len cap] w fun e w' => e = .returned (.tuple #[.agg #[.int .u64 0, .int .u64 0, .int .u64 0], errC 1]) ∧ Below w.heap.size w w' := by
  go_enter Tryd.func25, Tryd.ntmps25
  go_wp2_with fail
  refine (sKeyY _ h1 h2 _).mono ?_
  rintro e w1 ⟨rfl, rfl⟩
  go_wp2_with fail
  refine (sKeyN _ n0 h _).mono ?_
  rintro e w1 ⟨rfl, rfl⟩
  go_wp2_with fail
  refine bodyPost_ret (v := .tuple #[.agg #[.int .u64 0, .int .u64 0, .int .u64 0], errC 1]) (by simp [results, Tryd.results25, go_sem]) rfl ⟨rfl, ?_⟩
  repeat (first | exact Below.refl _ _ | assumption | apply bDrewN | apply bDrew | apply bAlloc | refine bSet ?_ (by omega) | refine bThen ?_ (by assumption) (by simp <;> omega))

/-! the statements' own -/
theorem lKeyY (k : Int) (h : 1 ≤ k) (h2 : k < 72057593894066549) (w : World) :
    Calls Tryd.prog 22 #[.int .u64 k] w fun e w' => e = .returned (.bool true) ∧ w' = w := by
  go_enter Tryd.func22, Tryd.ntmps22
  go_wp2
  go_ret
  exact ⟨rfl, rfl⟩
theorem lKeyN (k : Int) (h0 : 0 ≤ k) (h : ¬ (1 ≤ k ∧ k < 72057593894066549)) (w : World) :
    Calls Tryd.prog 22 #[.int .u64 k] w fun e w' => e = .returned (.bool false) ∧ w' = w := by
  by_cases h1 : 1 ≤ k
  · have h2 : ¬ k < 72057593894066549 := fun h3 => h ⟨h1, h3⟩
    clear h
    go_enter Tryd.func22, Tryd.ntmps22
    go_wp2
    go_ret
    exact ⟨rfl, rfl⟩
  · obtain rfl : k = 0 := by omega
    clear h
    go_enter Tryd.func22, Tryd.ntmps22
    go_wp2
    go_ret
    exact ⟨rfl, rfl⟩
theorem Row.grown {w w' : World} {b : Nat} {cs : Array Value} {t : TypeId} {q : Option Nat} (h : Row w b cs t) (hg : w.grownBy w' q) (hne : q ≠ some b) : Row w' b cs t := (hg.block b h.lt (fun e => hne e.symm)).trans h
theorem own_row {w : World} {g : Nat} {L : List Nat} (h : Row w g (u8s L) 5) (base : Nat) (hb : base ≤ g) (hl : L.length ≤ 1000000) : OwnB w base (.slice (some ⟨g, 0, none⟩) L.length L.length) L :=
  ⟨by simp, .inr ⟨g, L.length, u8s L, rfl, hb, h, Nat.le_refl _, by unfold maxLen; omega, by rw [u8s_size, Nat.mul_one], by unfold u8s; rw [Nat.mul_one]; exact List.take_of_length_le (by simp)⟩⟩
set_option maxRecDepth 8000 in
set_option maxHeartbeats 2000000 in
theorem lQues (ax ay px py : Int) (ax0 : 0 ≤ ax) (ay0 : 0 ≤ ay) (px0 : 0 ≤ px) (py0 : 0 ≤ py) (A P : Obol.Pt) (hvA : ptV A = edV ax ay) (hvP : ptV P = edV px py) (ao : Option Addr) (len cap : Nat) (M : List Nat) (HM0 : B8 len M) (hl : len ≤ 10000) (w : World) (hS0 : SlI w.heap.size w ao cap M) :
    Calls Tryd.prog 26 #[edV ax ay, edV px py, .slice ao len cap] w fun e w' => e = .returned (.int .u64 ((Obol.quesP A P M : Nat) : Int)) ∧ Below w.heap.size w w' := by
  have HM := Lib.hid HM0
  have hS := Lib.hid hS0
  have hlt : ax < 288230376287764481 ∧ ay < 288230376287764481 ∧ px < 288230376287764481 ∧ py < 288230376287764481 := by
    have h1 := n_of hvA ax0 ay0
    have h2 := n_of hvP px0 py0
    have q1 : A.x.val < 288230376287764481 := Nat.lt_of_lt_of_eq A.x.isLt Obol.R_def
    have q2 : A.y.val < 288230376287764481 := Nat.lt_of_lt_of_eq A.y.isLt Obol.R_def
    have q3 : P.x.val < 288230376287764481 := Nat.lt_of_lt_of_eq P.x.isLt Obol.R_def
    have q4 : P.y.val < 288230376287764481 := Nat.lt_of_lt_of_eq P.y.isLt Obol.R_def
    change (_, _) = (_, _) at h1
    change (_, _) = (_, _) at h2
    rw [Prod.mk.injEq] at h1 h2
    omega
  have cA := Lib.hid (fun w => r7Bytes ax ay ax0 (by omega) ay0 (by omega) w)
  have cP := Lib.hid (fun w => r7Bytes px py px0 (by omega) py0 (by omega) w)
  have hnA := Lib.hid (n_of hvA ax0 ay0)
  have hnP := Lib.hid (n_of hvP px0 py0)
  clear HM0 hS0 hvA hvP hlt
  go_enter Tryd.func26, Tryd.ntmps26
  go_wp2_with fail
  have H0 := Lib.hid (((HR.refl w).new #[.int .u64 ax, .int .u64 ay] 37).new #[.int .u64 px, .int .u64 py] 37)
  rw [World.size_alloc] at H0
  generalize (w.alloc (.cells #[.int .u64 ax, .int .u64 ay] 37)).alloc (.cells #[.int .u64 px, .int .u64 py] 37) = w2 at H0 ⊢
  have hbw : w.heap.size + 1 < w2.heap.size := H0.out.lt (b := w.heap.size + 1) (cs := #[.int .u64 px, .int .u64 py]) (t := 37) (by simp)
  generalize hb4 : w.heap.size + 1 = b4 at H0 hbw ⊢
  generalize hb3 : w.heap.size = b3 at H0 ⊢
  have hbs : Hid (b3 < b4 ∧ w.heap.size = b3) := Lib.hid (by omega)
  clear hb4 hb3
  refine wp_region_noPanic ?_
  refine wp_region_held_drew (S := fun wq => wq.cell? ⟨b4, 0, none⟩ = some (.int .u64 px) ∧ wq.cell? ⟨b4, 1, none⟩ = some (.int .u64 py) ∧ wq.cell? ⟨b3, 0, none⟩ = some (.int .u64 ax) ∧ wq.cell? ⟨b3, 1, none⟩ = some (.int .u64 ay) ∧ HR w wq [(b4, #[.int .u64 px, .int .u64 py], 37), (b3, #[.int .u64 ax, .int .u64 ay], 37)]) (by kernel_rfl) ?_ (fun hHeld => ?_)
  · have hq0 := HR.drew H0.out
    exact ⟨HR.cell hq0 (b := b4) (cs := #[.int .u64 px, .int .u64 py]) (t := 37) (by simp) 0 rfl, HR.cell hq0 (b := b4) (cs := #[.int .u64 px, .int .u64 py]) (t := 37) (by simp) 1 rfl, HR.cell hq0 (b := b3) (cs := #[.int .u64 ax, .int .u64 ay]) (t := 37) (by simp) 0 rfl, HR.cell hq0 (b := b3) (cs := #[.int .u64 ax, .int .u64 ay]) (t := 37) (by simp) 1 rfl, hq0⟩
  refine takeH 0 (fun _ _ _ _ _ h => h) (by kernel_rfl) hHeld rfl (by kernel_rfl) (by rfl) (v := ?_) ?_ ?_
  rotate_left
  ((intro wz hz; (try dsimp only at hz); go_simp) <;> with_reducible rfl)
  try simp only [Act.put, List.setIfInBounds_toArray, List.set_cons_zero, List.set_cons_succ]
  refine takeH 2 (fun _ _ _ _ _ h => h) (by kernel_rfl) hHeld rfl (by kernel_rfl) (by rfl) (v := ?_) ?_ ?_
  rotate_left
  ((intro wz hz; (try dsimp only at hz); go_simp) <;> with_reducible rfl)
  try simp only [Act.put, List.setIfInBounds_toArray, List.set_cons_zero, List.set_cons_succ]
  refine stepH 1 (by kernel_rfl) rfl (by rfl) (fun K hK => ?_)
  go_simp
  refine (cA.out _).mono ?_
  rintro e wc1 ⟨g1, rfl, hg1, R1, hbc1⟩
  have hrc1 := HR.next hHeld.2.2.2.2 hbc1
  have RA := Lib.hid R1
  refine hK.out _ _ ?_ (fun hHeld => ?_)
  · exact ⟨HR.cell hrc1 (b := b4) (cs := #[.int .u64 px, .int .u64 py]) (t := 37) (by simp) 0 rfl, HR.cell hrc1 (b := b4) (cs := #[.int .u64 px, .int .u64 py]) (t := 37) (by simp) 1 rfl, HR.cell hrc1 (b := b3) (cs := #[.int .u64 ax, .int .u64 ay]) (t := 37) (by simp) 0 rfl, HR.cell hrc1 (b := b3) (cs := #[.int .u64 ax, .int .u64 ay]) (t := 37) (by simp) 1 rfl, hrc1⟩
  clear hK K
  try simp only [Act.put, List.setIfInBounds_toArray, List.set_cons_zero, List.set_cons_succ]
  refine stepH 3 (by kernel_rfl) rfl (by rfl) (fun K hK => ?_)
  go_simp
  refine (cP.out _).mono ?_
  rintro e wc2 ⟨g2, rfl, hg2, R2, hbc2⟩
  have hrc2 := HR.next hHeld.2.2.2.2 hbc2
  have RB := Lib.hid R2
  have RA2 := RA.out.below hbc2 RA.out.lt
  refine hK.out _ _ ?_ (fun hHeld => ?_)
  · exact ⟨HR.cell hrc2 (b := b4) (cs := #[.int .u64 px, .int .u64 py]) (t := 37) (by simp) 0 rfl, HR.cell hrc2 (b := b4) (cs := #[.int .u64 px, .int .u64 py]) (t := 37) (by simp) 1 rfl, HR.cell hrc2 (b := b3) (cs := #[.int .u64 ax, .int .u64 ay]) (t := 37) (by simp) 0 rfl, HR.cell hrc2 (b := b3) (cs := #[.int .u64 ax, .int .u64 ay]) (t := 37) (by simp) 1 rfl, hrc2⟩
  clear hK K
  try simp only [Act.put, List.setIfInBounds_toArray, List.set_cons_zero, List.set_cons_succ]
  have hO1 := own_row RA2 w.heap.size (by have := hrc1.2.size; have := hbs.out; exact Nat.le_trans (Nat.le_trans (by omega : w.heap.size ≤ w2.heap.size) (Nat.le_refl _)) hg1) (by show 8 ≤ 1000000; decide)
  obtain ⟨va, wa', hra, hOa, hba, hga, -⟩ := append_ownB wc2 w.heap.size _ _ (Obol.be8 (Obol.codeN (px.toNat, py.toNat))) hO1 ⟨g2, 0, none⟩ 8 8 rfl (fun k hk => by rw [addB]; exact R2.bl k hk) (by show 8 + 8 ≤ 140737488355328; decide) hrc2.2.size
  refine stepH 4 (by kernel_rfl) rfl (by rfl) (fun K hK => ?_)
  refine wp_appended _ _ _ _ rfl _ _ _ rfl rfl hra ?_
  have hd0 : w2.drew.heap.size = w2.heap.size := rfl
  have hd1 := hbs.out
  have hrc3 : HR w wa' [(b4, #[.int .u64 px, .int .u64 py], 37), (b3, #[.int .u64 ax, .int .u64 ay], 37)] := ⟨fun r hr => (hrc2.1 r hr).grown hga (fun h => by simp at hr; rcases hr with rfl | rfl <;> simp [Value.ownBlock] at h <;> omega), hrc2.2.trans hba⟩
  refine hK.out _ _ ?_ (fun hHeld => ?_)
  · exact ⟨HR.cell hrc3 (b := b4) (cs := #[.int .u64 px, .int .u64 py]) (t := 37) (by simp) 0 rfl, HR.cell hrc3 (b := b4) (cs := #[.int .u64 px, .int .u64 py]) (t := 37) (by simp) 1 rfl, HR.cell hrc3 (b := b3) (cs := #[.int .u64 ax, .int .u64 ay]) (t := 37) (by simp) 0 rfl, HR.cell hrc3 (b := b3) (cs := #[.int .u64 ax, .int .u64 ay]) (t := 37) (by simp) 1 rfl, hrc3⟩
  clear hK K
  try simp only [Act.put, List.setIfInBounds_toArray, List.set_cons_zero, List.set_cons_succ]
  refine takeH 5 (fun _ _ _ _ _ h => h) (by kernel_rfl) hHeld rfl (by kernel_rfl) (by rfl) (v := ?_) ?_ ?_
  rotate_left
  ((intro wz hz; (try dsimp only at hz); go_simp) <;> with_reducible rfl)
  try simp only [Act.put, List.setIfInBounds_toArray, List.set_cons_zero, List.set_cons_succ]
  refine wpAnyH_done (by kernel_rfl) (NoPanic.normal ?_) _
  have hBw := hHeld.2.2.2.2.2
  clear hra
  have hSw := hS.out.at hBw
  have hsl := sl_r5' hSw HM.out.len
  have hlen16 : (Obol.be8 (Obol.codeN (ax.toNat, ay.toNat)) ++ Obol.be8 (Obol.codeN (px.toNat, py.toNat))).length = 16 := rfl
  obtain ⟨v3, w3, hr3, hO3, hb3', -, hn3⟩ := append_ownS wa' w.heap.size _ _ M hOa ao len cap HM.out.len hsl.1 hsl.2 (by rw [hlen16, HM.out.len]; omega) hBw.size
  have hlenM : (Obol.be8 (Obol.codeN (ax.toNat, ay.toNat)) ++ Obol.be8 (Obol.codeN (px.toNat, py.toNat)) ++ M).length = 16 + len := by rw [List.length_append, hlen16, HM.out.len]
  obtain ⟨g3, c3, cur3, rfl, -, -, -, -, -, -⟩ := hO3.size (by rw [hlenM]; omega)
  rw [hlenM] at hO3 hr3
  have hB3 := Lib.hid (hBw.trans hb3')
  have hBb : B8 (16 + len) (Obol.be8 (Obol.codeN (ax.toNat, ay.toNat)) ++ Obol.be8 (Obol.codeN (px.toNat, py.toNat)) ++ M) := ((be8_b8 _).app (be8_b8 _)).app HM.out
  have hsr := sl_r5' (own_sl hO3 hlenM) hlenM
  have cS := Lib.hid (r5Sum schS (by decide) (some ⟨g3, 0, none⟩) (16 + len) c3 _ hBb (by omega) w3 hsr.1 hsr.2)
  have hq : Hid (((Obol.quesP A P M : Nat) : Int) = ((Obol.numL (Obol.sumL (strL schS) (Obol.be8 (Obol.codeN (ax.toNat, ay.toNat)) ++ Obol.be8 (Obol.codeN (px.toNat, py.toNat)) ++ M)) : Nat) : Int) % 72057593894066549) := Lib.hid (by
    rw [hnA.out, hnP.out]
    unfold Obol.quesP Obol.quesN
    rw [sch_str]
    exact Int.natCast_emod _ _)
  have hD := sumL_b8 (strL schS) (Obol.be8 (Obol.codeN (ax.toNat, ay.toNat)) ++ Obol.be8 (Obol.codeN (px.toNat, py.toNat)) ++ M) (strL_lt _)
  generalize Obol.sumL (strL schS) (Obol.be8 (Obol.codeN (ax.toNat, ay.toNat)) ++ Obol.be8 (Obol.codeN (px.toNat, py.toNat)) ++ M) = D at cS hq hD
  obtain ⟨x, hx⟩ : ∃ x : Int, ((Obol.numL D : Nat) : Int) = x := ⟨_, rfl⟩
  have x0 : 0 ≤ x := by omega
  rw [hx] at hq
  have ht : x.tmod 72057593894066549 = x % 72057593894066549 := Int.tmod_eq_emod_of_nonneg x0
  have hX := Lib.hid hx
  replace hD := Lib.hid hD
  clear hx hO3 hb3' hsr hBb hlenM hlen16 hsl hSw hOa hn3
  go_wp2_with (at_builtin; refine wpList_appended rfl _ _ _ _ rfl _ _ _ rfl rfl hr3 ?_)
  refine cS.out.mono ?_
  rintro e w4 ⟨g4, c4, rfl, hO4, hb4⟩
  have hB4 := Lib.hid (bThen hB3.out hb4 hB3.out.size)
  have cN := r5Number g4 0 32 c4 D 32 hD.out (by decide) rfl (by decide) w4 (own_blz hO4 hD.out.len)
  rw [hX.out] at cN
  replace cN := Lib.hid cN
  clear hO4 hb4
  go_wp2_with fail
  refine cN.out.mono ?_
  rintro e w5 ⟨rfl, rfl⟩
  go_wp2_with fail
  go_ret
  exact ⟨by rw [hq.out]; rfl, hB4.out⟩

end Go.Proofs.YtiffendfojhapaaDoor
