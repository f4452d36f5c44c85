import Derived.Test.YtkfimfjjmdjbdaaUp
import Derived.Test.YtkfimfjjmdjbdaaUo
set_option linter.unusedVariables false
set_option linter.unusedSimpArgs false
set_option linter.unusedSectionVars false
/- Walks: the reference of layer 19: the point of 8 bytes. -/
namespace Go.Proofs.Ytkfimfjjmdjbdaa
open Go.RowKit
set_option linter.unusedVariables false
set_option linter.unusedSimpArgs false

set_option maxHeartbeats 1000000 in
theorem r2NumberG (b o cap : Nat) (L : List Nat) (H0 : B8 8 L) (n : Nat) (hn : 8 ≤ n) (hn2 : n ≤ 1000000) (w : World) (hc0 : BL w b o L) :
    Calls Try.prog 63 #[.slice (some ⟨b, o, none⟩) n cap] w fun e w' => e = .returned (.int .u64 ((Obol.num8 L : Nat) : Int)) ∧ w' = w := by
  have H := Lib.hid H0
  have C := Lib.hid hc0
  have hni : (8 : Int) ≤ (n : Int) := by omega
  have hni2 : (n : Int) ≤ 1000000 := by omega
  clear hc0 H0
  go_enter Try.func63, Try.ntmps63
  go_wp2
  go_loopw [3, 4] (fun q1 q2 wr => ∃ N i : Int, q1 = .int .u64 N ∧ q2 = .int .i64 i ∧ Hid (ReadI L N i) ∧ wr = w) (fun _ q2 _ => (8 - intOf q2).toNat)
  case atStart => exact ⟨0, 0, rfl, rfl, Lib.hid ⟨by omega, by omega, by omega, by decide, rfl⟩, rfl⟩
  case round =>
    obtain ⟨N, i, rfl, rfl, HI, rfl⟩ := hrel
    have i0 := HI.out.2.1
    have i1 := HI.out.2.2.1
    by_cases hi : i < 8
    · obtain ⟨n0, n1⟩ := HI.out.bound hi
      obtain ⟨v, hv, he, v0, v1⟩ := C.out.at H.out i0 hi
      have HN := Lib.hid (HI.out.step H.out hi he v0 v1)
      have hin : i < (n : Int) := by omega
      clear he
      go_wp2
      exact ⟨⟨_, _, rfl, rfl, HN, trivial⟩, by simp [intOf]; omega⟩
    · obtain rfl : i = 8 := by omega
      have hN := Lib.hid (HI.out.done H.out)
      clear HI
      go_wp2
      go_ret
      exact ⟨ret_u64 hN.out, rfl⟩
theorem results_two_row9 {P : Program} {fn : Func} {p q : Tmp} {t : TypeId} (h : fn.results = #[.cell p t, .tmp q]) (tmps : Array Value) {w : World} {b : Nat} {cs : Array Value} {d : TypeDesc} (ht : tmps.getD p undef = .pointer (some ⟨b, 0, none⟩))
    (hR : Row w b cs t) (hu : P.underlying t = some d) (hd : d.isRow = true) (hi : (P.info? t).map (·.size) = some cs.size) : (results fn tmps).run P w = .ok (.tuple #[.agg cs, tmps.getD q undef]) w := results_two_row h tmps ht hR hu hd hi
/-- A point found, or that there is none. -/
def FdI (n : Nat) (w : World) (e : Ending) (w' : World) : Prop := (∃ (X Y : Int) (ok : Bool), e = .returned (.tuple #[.agg #[.int .u64 X, .int .u64 Y], .bool ok]) ∧ (ok = true → 0 ≤ X ∧ 0 ≤ Y ∧ Obol.readN n = some (X.toNat, Y.toNat)) ∧ (ok = false → Obol.readN n = none)) ∧ Below w.heap.size w w'
theorem found_far {n : Nat} (h : Obol.R ≤ n % 9223372036854775808) : Obol.readN n = none := by
  unfold Obol.readN
  rw [if_neg (fun g => by omega)]
theorem found_none {n : Nat} (h : Obol.sqB (Obol.sqN (n % 9223372036854775808)) = false) : Obol.readN n = none := by
  unfold Obol.readN
  rw [if_neg (fun g => by rw [h] at g; cases g.2)]
theorem found_is {n x X : Nat} (hy : n % 9223372036854775808 < Obol.R) (hs : Obol.sqB (Obol.sqN (n % 9223372036854775808)) = true) (hx : x < Obol.R) (h : x * x % Obol.R = Obol.sqN (n % 9223372036854775808) % Obol.R) (hn : n < 18446744073709551616)
    (hX : X = if x % 2 = n / 9223372036854775808 then x else Obol.subR 0 x) : (X % 2 = n / 9223372036854775808 → Obol.readN n = some (X, n % 9223372036854775808)) ∧ (X % 2 ≠ n / 9223372036854775808 → Obol.readN n = none) := by
  have e := Obol.readN_root hy hs hx h hn
  rw [← hX] at e
  rw [e]
  unfold Obol.okN
  exact ⟨fun g => if_pos g, fun g => if_neg g⟩
theorem sub0_nat {x : Nat} (hx : x < Obol.R) : Obol.subR 0 x = if x = 0 then 0 else Obol.R - x := by
  rw [Obol.subR_eq, Obol.subQ, Nat.zero_mod, Nat.mod_eq_of_lt hx, Nat.zero_add]
  split
  · rename_i e; rw [e, Nat.sub_zero, Nat.mod_self]
  · rw [Nat.mod_eq_of_lt (by omega)]
set_option maxRecDepth 8000 in
set_option maxHeartbeats 8000000 in
theorem r19Found (b o c : Nat) (M : List Nat) (HM : B8 8 M) (w : World) (hBL : BL w b o M) : Calls Try.prog 45 #[.slice (some ⟨b, o, none⟩) 8 c] w (FdI (Obol.num8 M) w) := by
  have hM := Lib.hid hBL
  have H0 := Lib.hid HM
  have hn64 := Obol.num8_lt (Obol.mem_lt HM.lt) HM.len
  obtain ⟨N, hN⟩ : ∃ N, Obol.num8 M = N := ⟨_, rfl⟩
  have cN0 := fun W (h : BL W b o M) => r2Number b o c M HM W h
  rw [hN] at cN0 hn64 ⊢
  obtain ⟨n, hn⟩ : ∃ n : Int, ((N : Nat) : Int) = n := ⟨_, rfl⟩
  rw [hn] at cN0
  have cN := Lib.hid cN0
  have n0 : 0 ≤ n := by omega
  have n1 : n ≤ 18446744073709551615 := by omega
  have e1 : n.tmod 9223372036854775808 = n % 9223372036854775808 := Int.tmod_eq_emod_of_nonneg n0
  obtain ⟨y, hy⟩ : ∃ y : Int, n % 9223372036854775808 = y := ⟨_, rfl⟩
  rw [hy] at e1
  have y0 : 0 ≤ y := by omega
  have y1 : y ≤ 9223372036854775807 := by omega
  have hyn : Hid (N % 9223372036854775808 = y.toNat) := Lib.hid (by omega)
  have hnn : Hid (((N / 9223372036854775808 : Nat) : Int) = n / 9223372036854775808 ∧ N / 9223372036854775808 < 2 ∧ (N < 18446744073709551616)) := Lib.hid (by omega)
  have undE := Try.underlying24
  clear cN0 hBL HM hN hn64
  replace hn := Lib.hid hn
  replace hy := Lib.hid hy
  by_cases hyR : 288230376287764481 ≤ y
  · have hF := Lib.hid (found_far (n := N) (by rw [hyn.out, Obol.R_def]; omega))
    go_enter Try.func45, Try.ntmps45
    go_upto_region 1 with fail
    have H1 := Lib.hid ((HR.refl w).new #[.int .u64 0, .int .u64 0] 24)
    have B1 := Lib.hid ((hM.out).below (bAlloc (Below.refl w.heap.size w) (.cells #[.int .u64 0, .int .u64 0] 24)) (hM.out.lt (by rw [H0.out.len]; omega)))
    generalize w.alloc (.cells #[.int .u64 0, .int .u64 0] 24) = w1 at H1 B1 ⊢
    generalize hb2 : w.heap.size = b2 at H1 ⊢
    have hb := Lib.hid hb2
    clear hb2
    go_upto_region 4 with (go_at_call 63; refine (cN.out _ B1.out).mono ?_; rintro e w' ⟨rfl, hw⟩; subst hw)
    have h2 := H1.out.row (b := b2) (cs := #[.int .u64 0, .int .u64 0]) (t := 24) (by simp)
    have hth := h2.there
    go_wp2_with ((refine wpList_store_mid rfl _ _ _ rfl b2 0 #[.int .u64 0, .int .u64 0] rfl rfl hth sizED (one2 _ _) ?_))
    have RZ := h2.store #[.int .u64 0, .int .u64 0] rfl
    have HZ := HR.putMany (cs := #[.int .u64 0, .int .u64 0]) (t := 24) (rs := []) (HR.sub (qs := [(b2, #[.int .u64 0, .int .u64 0], 24)]) H1.out (by simp)) (by simp) (by have := hb.out; omega) (#[.int .u64 0, .int .u64 0] : Array Value).toList 0 (by simp) rfl
    exact bodyPost_ret (v := _) (results_two_row9 rfl _ rfl RZ undE rfl sizED) rfl ⟨⟨_, _, _, rfl, (fun h => by cases h), fun _ => hF.out⟩, HZ.2⟩
  · have cS := fun W => r7Square y y0 W
    obtain ⟨s, hs⟩ : ∃ s : Int, ((sqY y.toNat : Nat) : Int) = s := ⟨_, rfl⟩
    rw [hs] at cS
    have s0 : 0 ≤ s := by omega
    have hsN : Hid (s.toNat = Obol.sqN y.toNat) := Lib.hid (by rw [← hs]; exact Int.toNat_natCast _)
    have cR := fun W => r19Root s s0 W
    replace cS := Lib.hid cS
    replace cR := Lib.hid cR
    clear hs
    go_enter Try.func45, Try.ntmps45
    go_upto_region 1 with fail
    have H1 := Lib.hid ((HR.refl w).new #[.int .u64 0, .int .u64 0] 24)
    have B1 := Lib.hid ((hM.out).below (bAlloc (Below.refl w.heap.size w) (.cells #[.int .u64 0, .int .u64 0] 24)) (hM.out.lt (by rw [H0.out.len]; omega)))
    generalize w.alloc (.cells #[.int .u64 0, .int .u64 0] 24) = w1 at H1 B1 ⊢
    generalize hb2 : w.heap.size = b2 at H1 ⊢
    have hb := Lib.hid hb2
    clear hb2
    go_wp2_with (first | (go_at_call 63; refine (cN.out _ B1.out).mono ?_; rintro e w' ⟨rfl, hw⟩; subst hw) | (go_at_call 65; refine (cS.out _).mono ?_; rintro e w' ⟨rfl, m1, rfl⟩))
    refine (cR.out _).mono ?_
    rintro e w' ⟨hcase, m2, rfl⟩
    have Hq0 := Lib.hid ((H1.out.drewN m1).drewN m2)
    generalize (w'.drewN m1).drewN m2 = wq at Hq0 ⊢
    clear cS cR H1 B1
    rcases hcase with ⟨hq1, rfl⟩ | ⟨hq1, X, x0, x1, x2, rfl⟩
    · rw [hsN.out] at hq1
      have hF := Lib.hid (found_none (n := N) (by rw [hyn.out]; exact hq1))
      clear hq1
      have Hq := Hq0
      clear Hq0
      go_upto_region 7 with fail
      have h2 := Hq.out.row (b := b2) (cs := #[.int .u64 0, .int .u64 0]) (t := 24) (by simp)
      have hth := h2.there
      go_wp2_with ((refine wpList_store_mid rfl _ _ _ rfl b2 0 #[.int .u64 0, .int .u64 0] rfl rfl hth sizED (one2 _ _) ?_))
      have RZ := h2.store #[.int .u64 0, .int .u64 0] rfl
      have HZ := HR.putMany (cs := #[.int .u64 0, .int .u64 0]) (t := 24) (rs := []) (HR.sub (qs := [(b2, #[.int .u64 0, .int .u64 0], 24)]) Hq.out (by simp)) (by simp) (by have := hb.out; omega) (#[.int .u64 0, .int .u64 0] : Array Value).toList 0 (by simp) rfl
      exact bodyPost_ret (v := _) (results_two_row9 rfl _ rfl RZ undE rfl sizED) rfl ⟨⟨_, _, _, rfl, (fun h => by cases h), fun _ => hF.out⟩, HZ.2⟩
    · rw [hsN.out] at hq1 x2
      have hxR := x1
      rw [Obol.R_def] at x1
      have x1i : X < 288230376287764481 := by omega
      have hG : Hid (∀ Z : Nat, (Z = if X.toNat % 2 = N / 9223372036854775808 then X.toNat else Obol.subR 0 X.toNat) → (Z % 2 = N / 9223372036854775808 → Obol.readN N = some (Z, N % 9223372036854775808)) ∧ (Z % 2 ≠ N / 9223372036854775808 → Obol.readN N = none)) :=
        Lib.hid (fun Z hZ => found_is (by rw [hyn.out, Obol.R_def]; omega) (by rw [hyn.out]; exact hq1) hxR (by rw [hyn.out]; exact x2) hnn.out.2.2 hZ)
      have hS0 := Lib.hid (sub0_nat hxR)
      have xm : X.tmod 2 = X % 2 := Int.tmod_eq_emod_of_nonneg x0
      clear x1 x2 hxR
      have Hq := Hq0
      clear Hq0
      have hp : (X % 2 = 0 ∧ n < 9223372036854775808) ∨ (X % 2 = 0 ∧ 9223372036854775808 ≤ n) ∨ (X % 2 = 1 ∧ n < 9223372036854775808) ∨ (X % 2 = 1 ∧ 9223372036854775808 ≤ n) := by omega
      rcases hp with hp | hp | hp | hp
      · have hF := Lib.hid (hG.out X.toNat (by rw [if_pos (by have := hnn.out; omega)]))
        have xb : (X % 2 == 1) = false := beq_eq_false_iff_ne.2 (by omega)
        have sb : ¬ (9223372036854775808 : Int) ≤ n := by omega
        have db : decide ((9223372036854775808 : Int) ≤ n) = false := decide_eq_false sb
        have hpH := Lib.hid hp
        clear hp hq1
        have hth := Row.newThere wq #[.int .u64 0, .int .u64 0] 24
        go_upto_region 11 with (refine wpList_store_mid rfl _ _ _ rfl wq.heap.size 0 #[.int .u64 X, .int .u64 y] rfl rfl hth sizED (one2 _ _) ?_)
        have H8 := Lib.hid (Hq.out.fill #[.int .u64 0, .int .u64 0] #[.int .u64 X, .int .u64 y] 24 rfl)
        clear hth Hq
        generalize (wq.alloc (.cells #[.int .u64 0, .int .u64 0] 24)).setCells wq.heap.size 0 (#[.int .u64 X, .int .u64 y] : Array Value).toList = w8 at H8 ⊢
        generalize wq.heap.size = b8 at H8 ⊢
        have hr8 := H8.out.row (b := b8) (cs := #[.int .u64 X, .int .u64 y]) (t := 24) (by simp)
        have h2 := H8.out.row (b := b2) (cs := #[.int .u64 0, .int .u64 0]) (t := 24) (by simp)
        have hth := h2.there
        go_wp2_with (first | (refine wpList_load_row rfl _ _ rfl b8 rfl 24 #[.int .u64 X, .int .u64 y] (0, 0) _ hr8 undE rfl sizED ?_) | (refine wpList_store_mid rfl _ _ _ rfl b2 0 #[.int .u64 X, .int .u64 y] rfl rfl hth sizED (one2 _ _) ?_))
        have RZ := h2.store #[.int .u64 X, .int .u64 y] rfl
        have HZ := HR.putMany (cs := #[.int .u64 0, .int .u64 0]) (t := 24) (rs := []) (HR.sub (qs := [(b2, #[.int .u64 0, .int .u64 0], 24)]) H8.out (by simp)) (by simp) (by have := hb.out; omega) (#[.int .u64 X, .int .u64 y] : Array Value).toList 0 (by simp) rfl
        exact bodyPost_ret (v := _) (results_two_row9 rfl _ rfl RZ undE rfl sizED) rfl ⟨⟨_, _, _, rfl, fun _ => ⟨x0, y0, (hF.out.1 (by have := hnn.out; have := hpH.out; omega)).trans (by have := hyn.out; rw [this])⟩, (fun h => by cases h)⟩, HZ.2⟩
      · by_cases hz : X = 0
        · have hF := Lib.hid (hG.out 0 (by rw [if_neg (by have := hnn.out; omega), hS0.out, hz]; rfl))
          subst hz
          have xr : (288230376287764481 : Int).tmod 288230376287764481 = 0 := by decide
          have xb : ((0 : Int) % 2 == 1) = false := by decide
          have sb : (9223372036854775808 : Int) ≤ n := by omega
          have db : decide ((9223372036854775808 : Int) ≤ n) = true := decide_eq_true sb
          have hpH := Lib.hid hp
          clear hp hq1 xm
          have xm0 : (0 : Int).tmod 2 = 0 := by decide
          have hth := Row.newThere wq #[.int .u64 0, .int .u64 0] 24
          go_upto_region 11 with (refine wpList_store_mid rfl _ _ _ rfl wq.heap.size 0 #[.int .u64 0, .int .u64 y] rfl rfl hth sizED (one2 _ _) ?_)
          have H8 := Lib.hid (Hq.out.fill #[.int .u64 0, .int .u64 0] #[.int .u64 0, .int .u64 y] 24 rfl)
          clear hth Hq
          generalize (wq.alloc (.cells #[.int .u64 0, .int .u64 0] 24)).setCells wq.heap.size 0 (#[.int .u64 0, .int .u64 y] : Array Value).toList = w8 at H8 ⊢
          generalize wq.heap.size = b8 at H8 ⊢
          have hr8 := H8.out.row (b := b8) (cs := #[.int .u64 0, .int .u64 y]) (t := 24) (by simp)
          have h2 := H8.out.row (b := b2) (cs := #[.int .u64 0, .int .u64 0]) (t := 24) (by simp)
          have hth := h2.there
          go_wp2_with (first | (refine wpList_load_row rfl _ _ rfl b8 rfl 24 #[.int .u64 0, .int .u64 y] (0, 0) _ hr8 undE rfl sizED ?_) | (refine wpList_store_mid rfl _ _ _ rfl b2 0 #[.int .u64 0, .int .u64 y] rfl rfl hth sizED (one2 _ _) ?_))
          have RZ := h2.store #[.int .u64 0, .int .u64 y] rfl
          have HZ := HR.putMany (cs := #[.int .u64 0, .int .u64 0]) (t := 24) (rs := []) (HR.sub (qs := [(b2, #[.int .u64 0, .int .u64 0], 24)]) H8.out (by simp)) (by simp) (by have := hb.out; omega) (#[.int .u64 0, .int .u64 y] : Array Value).toList 0 (by simp) rfl
          exact bodyPost_ret (v := _) (results_two_row9 rfl _ rfl RZ undE rfl sizED) rfl ⟨⟨_, _, _, rfl, (fun h => by cases h), fun _ => hF.out.2 (by have := hnn.out; have := hpH.out; omega)⟩, HZ.2⟩
        · obtain ⟨V, hV⟩ : ∃ V : Int, 288230376287764481 - X = V := ⟨_, rfl⟩
          have v0 : 0 ≤ V := by omega
          have v1 : V < 288230376287764481 := by omega
          have hF := Lib.hid (hG.out V.toNat (by rw [if_neg (by have := hnn.out; omega), hS0.out, Obol.R_def, if_neg (by omega)]; omega))
          have xr : V.tmod 288230376287764481 = V := by rw [Int.tmod_eq_emod_of_nonneg v0, Int.emod_eq_of_lt v0 v1]
          have vm : V.tmod 2 = V % 2 := Int.tmod_eq_emod_of_nonneg v0
          have vb : (V % 2 == 1) = true := beq_iff_eq.2 (by omega)
          have xb : (X % 2 == 1) = false := beq_eq_false_iff_ne.2 (by omega)
          have sb : (9223372036854775808 : Int) ≤ n := by omega
          have db : decide ((9223372036854775808 : Int) ≤ n) = true := decide_eq_true sb
          have hpH := Lib.hid hp
          clear hp hq1
          have hth := Row.newThere wq #[.int .u64 0, .int .u64 0] 24
          go_upto_region 11 with (refine wpList_store_mid rfl _ _ _ rfl wq.heap.size 0 #[.int .u64 V, .int .u64 y] rfl rfl hth sizED (one2 _ _) ?_)
          have H8 := Lib.hid (Hq.out.fill #[.int .u64 0, .int .u64 0] #[.int .u64 V, .int .u64 y] 24 rfl)
          clear hth Hq
          generalize (wq.alloc (.cells #[.int .u64 0, .int .u64 0] 24)).setCells wq.heap.size 0 (#[.int .u64 V, .int .u64 y] : Array Value).toList = w8 at H8 ⊢
          generalize wq.heap.size = b8 at H8 ⊢
          have hr8 := H8.out.row (b := b8) (cs := #[.int .u64 V, .int .u64 y]) (t := 24) (by simp)
          have h2 := H8.out.row (b := b2) (cs := #[.int .u64 0, .int .u64 0]) (t := 24) (by simp)
          have hth := h2.there
          go_wp2_with (first | (refine wpList_load_row rfl _ _ rfl b8 rfl 24 #[.int .u64 V, .int .u64 y] (0, 0) _ hr8 undE rfl sizED ?_) | (refine wpList_store_mid rfl _ _ _ rfl b2 0 #[.int .u64 V, .int .u64 y] rfl rfl hth sizED (one2 _ _) ?_))
          have RZ := h2.store #[.int .u64 V, .int .u64 y] rfl
          have HZ := HR.putMany (cs := #[.int .u64 0, .int .u64 0]) (t := 24) (rs := []) (HR.sub (qs := [(b2, #[.int .u64 0, .int .u64 0], 24)]) H8.out (by simp)) (by simp) (by have := hb.out; omega) (#[.int .u64 V, .int .u64 y] : Array Value).toList 0 (by simp) rfl
          exact bodyPost_ret (v := _) (results_two_row9 rfl _ rfl RZ undE rfl sizED) rfl ⟨⟨_, _, _, rfl, fun _ => ⟨by omega, y0, (hF.out.1 (by have := hnn.out; have := hpH.out; omega)).trans (by have := hyn.out; rw [this])⟩, (fun h => by cases h)⟩, HZ.2⟩
      · have hz : X ≠ 0 := by omega
        obtain ⟨V, hV⟩ : ∃ V : Int, 288230376287764481 - X = V := ⟨_, rfl⟩
        have v0 : 0 ≤ V := by omega
        have v1 : V < 288230376287764481 := by omega
        have hF := Lib.hid (hG.out V.toNat (by rw [if_neg (by have := hnn.out; omega), hS0.out, Obol.R_def, if_neg (by omega)]; omega))
        have xr : V.tmod 288230376287764481 = V := by rw [Int.tmod_eq_emod_of_nonneg v0, Int.emod_eq_of_lt v0 v1]
        have vm : V.tmod 2 = V % 2 := Int.tmod_eq_emod_of_nonneg v0
        have vb : (V % 2 == 1) = false := beq_eq_false_iff_ne.2 (by omega)
        have xb : (X % 2 == 1) = true := beq_iff_eq.2 (by omega)
        have sb : ¬ (9223372036854775808 : Int) ≤ n := by omega
        have db : decide ((9223372036854775808 : Int) ≤ n) = false := decide_eq_false sb
        have hpH := Lib.hid hp
        clear hp hq1
        have hth := Row.newThere wq #[.int .u64 0, .int .u64 0] 24
        go_upto_region 11 with (refine wpList_store_mid rfl _ _ _ rfl wq.heap.size 0 #[.int .u64 V, .int .u64 y] rfl rfl hth sizED (one2 _ _) ?_)
        have H8 := Lib.hid (Hq.out.fill #[.int .u64 0, .int .u64 0] #[.int .u64 V, .int .u64 y] 24 rfl)
        clear hth Hq
        generalize (wq.alloc (.cells #[.int .u64 0, .int .u64 0] 24)).setCells wq.heap.size 0 (#[.int .u64 V, .int .u64 y] : Array Value).toList = w8 at H8 ⊢
        generalize wq.heap.size = b8 at H8 ⊢
        have hr8 := H8.out.row (b := b8) (cs := #[.int .u64 V, .int .u64 y]) (t := 24) (by simp)
        have h2 := H8.out.row (b := b2) (cs := #[.int .u64 0, .int .u64 0]) (t := 24) (by simp)
        have hth := h2.there
        go_wp2_with (first | (refine wpList_load_row rfl _ _ rfl b8 rfl 24 #[.int .u64 V, .int .u64 y] (0, 0) _ hr8 undE rfl sizED ?_) | (refine wpList_store_mid rfl _ _ _ rfl b2 0 #[.int .u64 V, .int .u64 y] rfl rfl hth sizED (one2 _ _) ?_))
        have RZ := h2.store #[.int .u64 V, .int .u64 y] rfl
        have HZ := HR.putMany (cs := #[.int .u64 0, .int .u64 0]) (t := 24) (rs := []) (HR.sub (qs := [(b2, #[.int .u64 0, .int .u64 0], 24)]) H8.out (by simp)) (by simp) (by have := hb.out; omega) (#[.int .u64 V, .int .u64 y] : Array Value).toList 0 (by simp) rfl
        exact bodyPost_ret (v := _) (results_two_row9 rfl _ rfl RZ undE rfl sizED) rfl ⟨⟨_, _, _, rfl, fun _ => ⟨by omega, y0, (hF.out.1 (by have := hnn.out; have := hpH.out; omega)).trans (by have := hyn.out; rw [this])⟩, (fun h => by cases h)⟩, HZ.2⟩
      · have hF := Lib.hid (hG.out X.toNat (by rw [if_pos (by have := hnn.out; omega)]))
        have xb : (X % 2 == 1) = true := beq_iff_eq.2 (by omega)
        have sb : (9223372036854775808 : Int) ≤ n := by omega
        have db : decide ((9223372036854775808 : Int) ≤ n) = true := decide_eq_true sb
        have hpH := Lib.hid hp
        clear hp hq1
        have hth := Row.newThere wq #[.int .u64 0, .int .u64 0] 24
        go_upto_region 11 with (refine wpList_store_mid rfl _ _ _ rfl wq.heap.size 0 #[.int .u64 X, .int .u64 y] rfl rfl hth sizED (one2 _ _) ?_)
        have H8 := Lib.hid (Hq.out.fill #[.int .u64 0, .int .u64 0] #[.int .u64 X, .int .u64 y] 24 rfl)
        clear hth Hq
        generalize (wq.alloc (.cells #[.int .u64 0, .int .u64 0] 24)).setCells wq.heap.size 0 (#[.int .u64 X, .int .u64 y] : Array Value).toList = w8 at H8 ⊢
        generalize wq.heap.size = b8 at H8 ⊢
        have hr8 := H8.out.row (b := b8) (cs := #[.int .u64 X, .int .u64 y]) (t := 24) (by simp)
        have h2 := H8.out.row (b := b2) (cs := #[.int .u64 0, .int .u64 0]) (t := 24) (by simp)
        have hth := h2.there
        go_wp2_with (first | (refine wpList_load_row rfl _ _ rfl b8 rfl 24 #[.int .u64 X, .int .u64 y] (0, 0) _ hr8 undE rfl sizED ?_) | (refine wpList_store_mid rfl _ _ _ rfl b2 0 #[.int .u64 X, .int .u64 y] rfl rfl hth sizED (one2 _ _) ?_))
        have RZ := h2.store #[.int .u64 X, .int .u64 y] rfl
        have HZ := HR.putMany (cs := #[.int .u64 0, .int .u64 0]) (t := 24) (rs := []) (HR.sub (qs := [(b2, #[.int .u64 0, .int .u64 0], 24)]) H8.out (by simp)) (by simp) (by have := hb.out; omega) (#[.int .u64 X, .int .u64 y] : Array Value).toList 0 (by simp) rfl
        exact bodyPost_ret (v := _) (results_two_row9 rfl _ rfl RZ undE rfl sizED) rfl ⟨⟨_, _, _, rfl, fun _ => ⟨x0, y0, (hF.out.1 (by have := hnn.out; have := hpH.out; omega)).trans (by have := hyn.out; rw [this])⟩, (fun h => by cases h)⟩, HZ.2⟩

end Go.Proofs.Ytkfimfjjmdjbdaa
/- Walks: the reference of layer 3: a point of bytes. -/
namespace Go.Proofs.Ytkfimfjjmdjbdaa
open Go.RowKit
set_option linter.unusedVariables false
set_option linter.unusedSimpArgs false

/-- A point of the curve, or that there is none. -/
def RdP (M : List Nat) (w : World) (e : Ending) (w' : World) : Prop := (∃ (i : Bool) (X Y : Int) (ok : Bool), e = .returned (.tuple #[.agg #[.bool i, .int .u64 X, .int .u64 Y], .bool ok]) ∧ (ok = true → 0 ≤ X ∧ 0 ≤ Y ∧ Obol.crd M = some (i, X.toNat, Y.toNat)) ∧ (ok = false → Obol.crd M = none)) ∧ Below w.heap.size w w'
theorem crd_inf {M : List Nat} (hn : M.length = 1) (h0 : M.getD 0 0 = 0) : Obol.crd M = some (true, 0, 0) := by unfold Obol.crd; rw [if_pos ⟨hn, h0⟩]
theorem crd_no1 {M : List Nat} (hn : M.length = 1) (h0 : M.getD 0 0 ≠ 0) : Obol.crd M = none := by
  unfold Obol.crd
  rw [if_neg (fun h => h0 h.2), if_neg (fun h => by omega)]
theorem crd_yes {M : List Nat} (hn : M.length = 17) (h0 : M.getD 0 0 = 1) (h : Obol.isC (Obol.num8 ((M.drop 1).take 8)) (Obol.num8 (M.drop 9)) = true) : Obol.crd M = some (false, Obol.num8 ((M.drop 1).take 8), Obol.num8 (M.drop 9)) := by
  unfold Obol.crd
  rw [if_neg (fun h => by omega), if_pos ⟨hn, h0⟩, if_pos h]
theorem crd_no17 {M : List Nat} (hn : M.length = 17) (h : Obol.isC (Obol.num8 ((M.drop 1).take 8)) (Obol.num8 (M.drop 9)) = false) : Obol.crd M = none := by
  unfold Obol.crd
  rw [if_neg (fun h => by omega)]
  split
  · rw [if_neg (by rw [h]; simp)]
  · rfl
set_option maxHeartbeats 2000000 in
theorem r3ReadI (b o c : Nat) (M : List Nat) (hb256 : ∀ i, M.getD i 0 < 256) (hn : M.length = 1) (h0 : M.getD 0 0 = 0) (hc : 1 ≤ c) (hc2 : c ≤ 9223372036854775807) (w : World) (hBL : BL w b o M) : Calls Try.prog 46 #[.slice (some ⟨b, o, none⟩) 1 c] w (RdP M w) := by
  have hM := Lib.hid hBL
  have hF := Lib.hid (crd_inf hn h0)
  have undP := Try.underlying31
  go_enter Try.func46, Try.ntmps46
  go_upto_region 1 with fail
  have H1 := Lib.hid ((HR.refl w).new #[.bool false, .int .u64 0, .int .u64 0] 31)
  have B1 := Lib.hid ((hM.out).below (bAlloc (Below.refl w.heap.size w) (.cells #[.bool false, .int .u64 0, .int .u64 0] 31)) (hM.out.lt (by omega)))
  generalize w.alloc (.cells #[.bool false, .int .u64 0, .int .u64 0] 31) = w1 at H1 B1 ⊢
  generalize hb2 : w.heap.size = b2 at H1 ⊢
  have hb := Lib.hid hb2
  clear hb2
  have hv0 := B1.out 0 (by omega)
  rw [h0, Nat.add_zero] at hv0
  have hv : w1.cell? ⟨b, o, none⟩ = some (.int .u8 0) := hv0
  clear hv0 h0 hb256
  have h2 := H1.out.row (b := b2) (cs := #[.bool false, .int .u64 0, .int .u64 0]) (t := 31) (by simp)
  have hth := h2.there
  go_wp2_with ((refine wpList_store_mid rfl _ _ _ rfl b2 0 #[.bool true, .int .u64 0, .int .u64 0] rfl rfl hth sizPT (one3 _ _ _) ?_))
  have RZ := h2.store #[.bool true, .int .u64 0, .int .u64 0] rfl
  have HZ := HR.putMany (cs := #[.bool false, .int .u64 0, .int .u64 0]) (t := 31) (rs := []) (HR.sub (qs := [(b2, #[.bool false, .int .u64 0, .int .u64 0], 31)]) H1.out (by simp)) (by simp) (by have := hb.out; omega) (#[.bool true, .int .u64 0, .int .u64 0] : Array Value).toList 0 (by simp) rfl
  exact bodyPost_ret (v := _) (results_two_row9 rfl _ rfl RZ undP rfl sizPT) rfl ⟨⟨_, _, _, _, rfl, fun _ => ⟨by omega, by omega, hF.out⟩, fun h => by cases h⟩, HZ.2⟩
set_option maxHeartbeats 2000000 in
theorem r3ReadE (b o c : Nat) (M : List Nat) (hb256 : ∀ i, M.getD i 0 < 256) (hn : M.length = 1) (h0 : M.getD 0 0 ≠ 0) (hc : 1 ≤ c) (hc2 : c ≤ 9223372036854775807) (w : World) (hBL : BL w b o M) : Calls Try.prog 46 #[.slice (some ⟨b, o, none⟩) 1 c] w (RdP M w) := by
  have hM := Lib.hid hBL
  have hF := Lib.hid (crd_no1 hn h0)
  have undP := Try.underlying31
  go_enter Try.func46, Try.ntmps46
  go_upto_region 1 with fail
  have H1 := Lib.hid ((HR.refl w).new #[.bool false, .int .u64 0, .int .u64 0] 31)
  have B1 := Lib.hid ((hM.out).below (bAlloc (Below.refl w.heap.size w) (.cells #[.bool false, .int .u64 0, .int .u64 0] 31)) (hM.out.lt (by omega)))
  generalize w.alloc (.cells #[.bool false, .int .u64 0, .int .u64 0] 31) = w1 at H1 B1 ⊢
  generalize hb2 : w.heap.size = b2 at H1 ⊢
  have hb := Lib.hid hb2
  clear hb2
  have hv0 := B1.out 0 (by omega)
  rw [Nat.add_zero] at hv0
  obtain ⟨v, hvd⟩ : ∃ v : Int, ((M.getD 0 0 : Nat) : Int) = v := ⟨_, rfl⟩
  rw [hvd] at hv0
  have q0 : (v == 0) = false := beq_eq_false_iff_ne.2 (by omega)
  clear hvd h0 hb256
  go_upto_region 4 with fail
  have h2 := H1.out.row (b := b2) (cs := #[.bool false, .int .u64 0, .int .u64 0]) (t := 31) (by simp)
  have hth := h2.there
  go_wp2_with ((refine wpList_store_mid rfl _ _ _ rfl b2 0 #[.bool false, .int .u64 0, .int .u64 0] rfl rfl hth sizPT (one3 _ _ _) ?_))
  have RZ := h2.store #[.bool false, .int .u64 0, .int .u64 0] rfl
  have HZ := HR.putMany (cs := #[.bool false, .int .u64 0, .int .u64 0]) (t := 31) (rs := []) (HR.sub (qs := [(b2, #[.bool false, .int .u64 0, .int .u64 0], 31)]) H1.out (by simp)) (by simp) (by have := hb.out; omega) (#[.bool false, .int .u64 0, .int .u64 0] : Array Value).toList 0 (by simp) rfl
  exact bodyPost_ret (v := _) (results_two_row9 rfl _ rfl RZ undP rfl sizPT) rfl ⟨⟨_, _, _, _, rfl, (fun h => by cases h), fun _ => hF.out⟩, HZ.2⟩
set_option maxRecDepth 8000 in
set_option maxHeartbeats 4000000 in
theorem r3ReadP (b o c : Nat) (M : List Nat) (hb256 : ∀ i, M.getD i 0 < 256) (hn : M.length = 17) (h0 : M.getD 0 0 = 1) (hc : 17 ≤ c) (hc2 : c ≤ 9223372036854775807) (w : World) (hBL : BL w b o M) : Calls Try.prog 46 #[.slice (some ⟨b, o, none⟩) 17 c] w (RdP M w) := by
  have hM := Lib.hid hBL
  have hlA : Hid (((M.drop 1).take 8).length = 8) := Lib.hid (by rw [List.length_take, List.length_drop]; omega)
  have hlB : Hid ((M.drop 9).length = 8) := Lib.hid (by rw [List.length_drop]; omega)
  have bA : B8 8 ((M.drop 1).take 8) := ⟨hlA.out, fun i => by rw [Obol.gd_take]; split; (rw [Obol.gd_drop]; exact hb256 _); omega⟩
  have bB : B8 8 (M.drop 9) := ⟨hlB.out, fun i => by rw [Obol.gd_drop]; exact hb256 _⟩
  have cA0 := fun W h => r2NumberG b (o + 1) (c - 1) _ bA 16 (by omega) (by omega) W h
  have cB0 := fun W h => r2NumberG b (o + 9) (c - 9) _ bB 8 (by omega) (by omega) W h
  have hY := fun g => crd_yes hn h0 g
  have hN := fun g => crd_no17 hn g
  have n1 := Obol.num8_lt (Obol.mem_lt bA.lt) bA.len
  have n2 := Obol.num8_lt (Obol.mem_lt bB.lt) bB.len
  obtain ⟨X, hX⟩ : ∃ X : Int, ((Obol.num8 ((M.drop 1).take 8) : Nat) : Int) = X := ⟨_, rfl⟩
  obtain ⟨Y, hYe⟩ : ∃ Y : Int, ((Obol.num8 (M.drop 9) : Nat) : Int) = Y := ⟨_, rfl⟩
  have eX : Obol.num8 ((M.drop 1).take 8) = X.toNat := by omega
  have eY : Obol.num8 (M.drop 9) = Y.toNat := by omega
  rw [hX] at cA0
  rw [hYe] at cB0
  rw [eX, eY] at hY hN
  have X0 : 0 ≤ X := by omega
  have Y0 : 0 ≤ Y := by omega
  have cA := Lib.hid cA0
  have cB := Lib.hid cB0
  have cI := Lib.hid (fun W => r3Is false X Y X0 Y0 W)
  have hYh := Lib.hid hY
  have hNh := Lib.hid hN
  clear hY hN cA0 cB0 bA bB hX hYe eX eY n1 n2
  have undP := Try.underlying31
  have s1 := fun W => slice_rest (P := Try.prog) 26 5 Try.underlying26 info8 b o 17 c 1 (by omega) hc W
  have s9 := fun W => slice_rest (P := Try.prog) 26 5 Try.underlying26 info8 b o 17 c 9 (by omega) hc W
  rw [if_neg (by omega)] at s1 s9
  have t1 : ∀ W, (Instr.slice 26 (.slice (some ⟨b, o, none⟩) 17 c) (some (.int .i64 1)) none none).run Try.prog W = .ok (.slice (some ⟨b, o + 1, none⟩) 16 (c - 1)) W := s1
  have t9 : ∀ W, (Instr.slice 26 (.slice (some ⟨b, o, none⟩) 17 c) (some (.int .i64 9)) none none).run Try.prog W = .ok (.slice (some ⟨b, o + 9, none⟩) 8 (c - 9)) W := s9
  clear s1 s9
  go_enter Try.func46, Try.ntmps46
  go_upto_region 1 with fail
  have H1 := Lib.hid ((HR.refl w).new #[.bool false, .int .u64 0, .int .u64 0] 31)
  have B1 := Lib.hid ((hM.out).below (bAlloc (Below.refl w.heap.size w) (.cells #[.bool false, .int .u64 0, .int .u64 0] 31)) (hM.out.lt (by omega)))
  generalize w.alloc (.cells #[.bool false, .int .u64 0, .int .u64 0] 31) = w1 at H1 B1 ⊢
  generalize hb2 : w.heap.size = b2 at H1 ⊢
  have hb := Lib.hid hb2
  clear hb2
  have hv0 := B1.out 0 (by omega)
  rw [h0, Nat.add_zero] at hv0
  have hv : w1.cell? ⟨b, o, none⟩ = some (.int .u8 1) := hv0
  have hA := Lib.hid (bl_at B1.out 1 8 (by omega))
  have hB0 := bl_at B1.out 9 8 (by omega)
  rw [List.take_of_length_le (by rw [hlB.out]; omega)] at hB0
  have hB := Lib.hid hB0
  have hl1 := Lib.hid H1.out
  clear hv0 h0 hb256 hB0
  go_upto_region 5 with fail
  clear hv
  refine wp_region_noPanic ?_
  refine wp_region_held_drew (S := fun wq => BL wq b (o + 1) ((M.drop 1).take 8) ∧ BL wq b (o + 9) (M.drop 9) ∧ HR w wq [(b2, #[.bool false, .int .u64 0, .int .u64 0], 31)]) (by kernel_rfl) ?_ (fun hHeld => ?_)
  · exact ⟨hA.out, hB.out, HR.drew H1.out⟩
  refine tk 0 hHeld ?_; refine tk 1 hHeld ?_; refine tk 3 hHeld ?_; refine tk 4 hHeld ?_
  refine wpAnyH_ready (rs := [2, 7]) (by kernel_rfl) (by simp) ?_
  refine AllReadyH.cons (i := 2) (by rw [List.getElem?_toArray]; exact rfl) (fun K hK => ?_) (AllReadyH.cons (i := 7) (by rw [List.getElem?_toArray]; exact rfl) (fun K hK => ?_) AllReadyH.nil)
  · go_simp
    refine (cA.out _ hHeld.1).mono ?_
    rintro e wv2 ⟨rfl, hw2⟩
    subst hw2
    refine hK.out _ _ ?_ (fun hHeld => ?_)
    · exact hHeld
    clear hK K
    try simp only [Act.put, List.setIfInBounds_toArray, List.set_cons_zero, List.set_cons_succ]
    refine wpAnyH_ready (rs := [5, 7]) (by kernel_rfl) (by simp) ?_
    refine AllReadyH.cons (i := 5) (by rw [List.getElem?_toArray]; exact rfl) (fun K hK => ?_) (AllReadyH.cons (i := 7) (by rw [List.getElem?_toArray]; exact rfl) (fun K hK => ?_) AllReadyH.nil)
    · go_simp
      refine (cB.out _ hHeld.2.1).mono ?_
      rintro e wva5 ⟨rfl, hwa5⟩
      subst hwa5
      refine hK.out _ _ ?_ (fun hHeld => ?_)
      · exact hHeld
      clear hK K
      try simp only [Act.put, List.setIfInBounds_toArray, List.set_cons_zero, List.set_cons_succ]
      refine tk 6 hHeld ?_
      refine stepH 7 (by kernel_rfl) rfl (by rfl) (fun K hK => ?_)
      go_simp
      refine hK.out _ _ ?_ (fun hHeld => ?_)
      · exact ⟨hHeld.1.below (bAlloc (Below.refl _ _) _) (hHeld.1.lt (by rw [hlA.out]; omega)), hHeld.2.1.below (bAlloc (Below.refl _ _) _) (hHeld.2.1.lt (by rw [hlB.out]; omega)), HR.alloc hHeld.2.2 _⟩
      clear hK K
      try simp only [Act.put, List.setIfInBounds_toArray, List.set_cons_zero, List.set_cons_succ]
      have HA := (HR.new H1.out #[.bool false, .int .u64 0, .int .u64 0] 31).drew
      have hth := (HA.row (b := w1.heap.size) (cs := #[.bool false, .int .u64 0, .int .u64 0]) (t := 31) (by simp)).there
      have BX := (HR.otherMany (rs := []) (D := w1.heap.size) (by simp) (Nat.le_refl _) (#[.bool false, .int .u64 X, .int .u64 Y] : Array Value).toList 0 _ (HR.sub (qs := []) ((HR.refl w1).new #[.bool false, .int .u64 0, .int .u64 0] 31).drew (by simp))).2
      refine stepH 8 (by kernel_rfl) rfl (by rfl) (fun K hK => ?_)
      refine wp_store_mid 31 _ _ rfl w1.heap.size 0 #[.bool false, .int .u64 X, .int .u64 Y] rfl rfl hth sizPT (one3 _ _ _) ?_
      refine hK.out _ _ ?_ (fun hHeld => ?_)
      · exact ⟨hA.out.below BX (hA.out.lt (by rw [hlA.out]; omega)), hB.out.below BX (hB.out.lt (by rw [hlB.out]; omega)), HR.otherMany (by have := hl1.out.lt (b := b2) (cs := #[.bool false, .int .u64 0, .int .u64 0]) (t := 31) (by simp); simp; omega) (by have := hl1.out.2.size; omega) (#[.bool false, .int .u64 X, .int .u64 Y] : Array Value).toList 0 _ (HR.sub HA (by simp))⟩
      clear hK K
      refine wpAnyH_done (by kernel_rfl) (NoPanic.normal ?_) _
      have H4 := Lib.hid (HR.putMany (cs := #[.bool false, .int .u64 0, .int .u64 0]) HA (by have := hl1.out.lt (b := b2) (cs := #[.bool false, .int .u64 0, .int .u64 0]) (t := 31) (by simp); simp; omega) (by have := hl1.out.2.size; omega) (#[.bool false, .int .u64 X, .int .u64 Y] : Array Value).toList 0 (by simp) rfl)
      clear hHeld HA BX hth
      generalize (w1.alloc (.cells #[.bool false, .int .u64 0, .int .u64 0] 31)).drew.setCells w1.heap.size 0 (#[.bool false, .int .u64 X, .int .u64 Y] : Array Value).toList = w4 at H4 ⊢
      generalize w1.heap.size = b4 at H4 ⊢
      have hr4 := H4.out.row (b := b4) (cs := #[.bool false, .int .u64 X, .int .u64 Y]) (t := 31) (by simp)
      go_wp2_with (refine wpList_load_row rfl _ _ rfl b4 rfl 31 #[.bool false, .int .u64 X, .int .u64 Y] (0, 0) _ hr4 undP rfl sizPT ?_)
      refine (cI.out _).mono ?_
      rintro e w5 ⟨rfl, hb5⟩
      have H5 := Lib.hid (H4.out.next hb5)
      clear hb5 H4 hr4
      have ei : isPt false X Y = Obol.isC X.toNat Y.toNat := rfl
      rw [ei]
      clear ei
      cases hI : Obol.isC X.toNat Y.toNat
      · have hF := Lib.hid (hNh.out hI)
        clear hI
        go_upto_region 8 with fail
        have h2 := H5.out.row (b := b2) (cs := #[.bool false, .int .u64 0, .int .u64 0]) (t := 31) (by simp)
        have hth := h2.there
        go_wp2_with ((refine wpList_store_mid rfl _ _ _ rfl b2 0 #[.bool false, .int .u64 0, .int .u64 0] rfl rfl hth sizPT (one3 _ _ _) ?_))
        have RZ := h2.store #[.bool false, .int .u64 0, .int .u64 0] rfl
        have HZ := HR.putMany (cs := #[.bool false, .int .u64 0, .int .u64 0]) (t := 31) (rs := []) (HR.sub (qs := [(b2, #[.bool false, .int .u64 0, .int .u64 0], 31)]) H5.out (by simp)) (by simp) (by have := hb.out; omega) (#[.bool false, .int .u64 0, .int .u64 0] : Array Value).toList 0 (by simp) rfl
        exact bodyPost_ret (v := _) (results_two_row9 rfl _ rfl RZ undP rfl sizPT) rfl ⟨⟨_, _, _, _, rfl, (fun h => by cases h), fun _ => hF.out⟩, HZ.2⟩
      · have hF := Lib.hid (hYh.out hI)
        clear hI
        have hr4 := H5.out.row (b := b4) (cs := #[.bool false, .int .u64 X, .int .u64 Y]) (t := 31) (by simp)
        have h2 := H5.out.row (b := b2) (cs := #[.bool false, .int .u64 0, .int .u64 0]) (t := 31) (by simp)
        have hth := h2.there
        go_wp2_with (first | (refine wpList_load_row rfl _ _ rfl b4 rfl 31 #[.bool false, .int .u64 X, .int .u64 Y] (0, 0) _ hr4 undP rfl sizPT ?_) | (refine wpList_store_mid rfl _ _ _ rfl b2 0 #[.bool false, .int .u64 X, .int .u64 Y] rfl rfl hth sizPT (one3 _ _ _) ?_))
        have RZ := h2.store #[.bool false, .int .u64 X, .int .u64 Y] rfl
        have HZ := HR.putMany (cs := #[.bool false, .int .u64 0, .int .u64 0]) (t := 31) (rs := []) (HR.sub (qs := [(b2, #[.bool false, .int .u64 0, .int .u64 0], 31)]) H5.out (by simp)) (by simp) (by have := hb.out; omega) (#[.bool false, .int .u64 X, .int .u64 Y] : Array Value).toList 0 (by simp) rfl
        exact bodyPost_ret (v := _) (results_two_row9 rfl _ rfl RZ undP rfl sizPT) rfl ⟨⟨_, _, _, _, rfl, fun _ => ⟨X0, Y0, hF.out⟩, fun h => by cases h⟩, HZ.2⟩
    · go_simp
      refine hK.out _ _ ?_ (fun hHeld => ?_)
      · exact ⟨hHeld.1.below (bAlloc (Below.refl _ _) _) (hHeld.1.lt (by rw [hlA.out]; omega)), hHeld.2.1.below (bAlloc (Below.refl _ _) _) (hHeld.2.1.lt (by rw [hlB.out]; omega)), HR.alloc hHeld.2.2 _⟩
      clear hK K
      try simp only [Act.put, List.setIfInBounds_toArray, List.set_cons_zero, List.set_cons_succ]
      refine stepH 5 (by kernel_rfl) rfl (by rfl) (fun K hK => ?_)
      go_simp
      refine (cB.out _ hHeld.2.1).mono ?_
      rintro e wvac5 ⟨rfl, hwac5⟩
      subst hwac5
      refine hK.out _ _ ?_ (fun hHeld => ?_)
      · exact hHeld
      clear hK K
      try simp only [Act.put, List.setIfInBounds_toArray, List.set_cons_zero, List.set_cons_succ]
      refine tk 6 hHeld ?_
      have HA := (HR.new H1.out #[.bool false, .int .u64 0, .int .u64 0] 31).drew
      have hth := (HA.row (b := w1.heap.size) (cs := #[.bool false, .int .u64 0, .int .u64 0]) (t := 31) (by simp)).there
      have BX := (HR.otherMany (rs := []) (D := w1.heap.size) (by simp) (Nat.le_refl _) (#[.bool false, .int .u64 X, .int .u64 Y] : Array Value).toList 0 _ (HR.sub (qs := []) ((HR.refl w1).new #[.bool false, .int .u64 0, .int .u64 0] 31).drew (by simp))).2
      refine stepH 8 (by kernel_rfl) rfl (by rfl) (fun K hK => ?_)
      refine wp_store_mid 31 _ _ rfl w1.heap.size 0 #[.bool false, .int .u64 X, .int .u64 Y] rfl rfl hth sizPT (one3 _ _ _) ?_
      refine hK.out _ _ ?_ (fun hHeld => ?_)
      · exact ⟨hA.out.below BX (hA.out.lt (by rw [hlA.out]; omega)), hB.out.below BX (hB.out.lt (by rw [hlB.out]; omega)), HR.otherMany (by have := hl1.out.lt (b := b2) (cs := #[.bool false, .int .u64 0, .int .u64 0]) (t := 31) (by simp); simp; omega) (by have := hl1.out.2.size; omega) (#[.bool false, .int .u64 X, .int .u64 Y] : Array Value).toList 0 _ (HR.sub HA (by simp))⟩
      clear hK K
      refine wpAnyH_done (by kernel_rfl) (NoPanic.normal ?_) _
      have H4 := Lib.hid (HR.putMany (cs := #[.bool false, .int .u64 0, .int .u64 0]) HA (by have := hl1.out.lt (b := b2) (cs := #[.bool false, .int .u64 0, .int .u64 0]) (t := 31) (by simp); simp; omega) (by have := hl1.out.2.size; omega) (#[.bool false, .int .u64 X, .int .u64 Y] : Array Value).toList 0 (by simp) rfl)
      clear hHeld HA BX hth
      generalize (w1.alloc (.cells #[.bool false, .int .u64 0, .int .u64 0] 31)).drew.setCells w1.heap.size 0 (#[.bool false, .int .u64 X, .int .u64 Y] : Array Value).toList = w4 at H4 ⊢
      generalize w1.heap.size = b4 at H4 ⊢
      have hr4 := H4.out.row (b := b4) (cs := #[.bool false, .int .u64 X, .int .u64 Y]) (t := 31) (by simp)
      go_wp2_with (refine wpList_load_row rfl _ _ rfl b4 rfl 31 #[.bool false, .int .u64 X, .int .u64 Y] (0, 0) _ hr4 undP rfl sizPT ?_)
      refine (cI.out _).mono ?_
      rintro e w5 ⟨rfl, hb5⟩
      have H5 := Lib.hid (H4.out.next hb5)
      clear hb5 H4 hr4
      have ei : isPt false X Y = Obol.isC X.toNat Y.toNat := rfl
      rw [ei]
      clear ei
      cases hI : Obol.isC X.toNat Y.toNat
      · have hF := Lib.hid (hNh.out hI)
        clear hI
        go_upto_region 8 with fail
        have h2 := H5.out.row (b := b2) (cs := #[.bool false, .int .u64 0, .int .u64 0]) (t := 31) (by simp)
        have hth := h2.there
        go_wp2_with ((refine wpList_store_mid rfl _ _ _ rfl b2 0 #[.bool false, .int .u64 0, .int .u64 0] rfl rfl hth sizPT (one3 _ _ _) ?_))
        have RZ := h2.store #[.bool false, .int .u64 0, .int .u64 0] rfl
        have HZ := HR.putMany (cs := #[.bool false, .int .u64 0, .int .u64 0]) (t := 31) (rs := []) (HR.sub (qs := [(b2, #[.bool false, .int .u64 0, .int .u64 0], 31)]) H5.out (by simp)) (by simp) (by have := hb.out; omega) (#[.bool false, .int .u64 0, .int .u64 0] : Array Value).toList 0 (by simp) rfl
        exact bodyPost_ret (v := _) (results_two_row9 rfl _ rfl RZ undP rfl sizPT) rfl ⟨⟨_, _, _, _, rfl, (fun h => by cases h), fun _ => hF.out⟩, HZ.2⟩
      · have hF := Lib.hid (hYh.out hI)
        clear hI
        have hr4 := H5.out.row (b := b4) (cs := #[.bool false, .int .u64 X, .int .u64 Y]) (t := 31) (by simp)
        have h2 := H5.out.row (b := b2) (cs := #[.bool false, .int .u64 0, .int .u64 0]) (t := 31) (by simp)
        have hth := h2.there
        go_wp2_with (first | (refine wpList_load_row rfl _ _ rfl b4 rfl 31 #[.bool false, .int .u64 X, .int .u64 Y] (0, 0) _ hr4 undP rfl sizPT ?_) | (refine wpList_store_mid rfl _ _ _ rfl b2 0 #[.bool false, .int .u64 X, .int .u64 Y] rfl rfl hth sizPT (one3 _ _ _) ?_))
        have RZ := h2.store #[.bool false, .int .u64 X, .int .u64 Y] rfl
        have HZ := HR.putMany (cs := #[.bool false, .int .u64 0, .int .u64 0]) (t := 31) (rs := []) (HR.sub (qs := [(b2, #[.bool false, .int .u64 0, .int .u64 0], 31)]) H5.out (by simp)) (by simp) (by have := hb.out; omega) (#[.bool false, .int .u64 X, .int .u64 Y] : Array Value).toList 0 (by simp) rfl
        exact bodyPost_ret (v := _) (results_two_row9 rfl _ rfl RZ undP rfl sizPT) rfl ⟨⟨_, _, _, _, rfl, fun _ => ⟨X0, Y0, hF.out⟩, fun h => by cases h⟩, HZ.2⟩
  · go_simp
    refine hK.out _ _ ?_ (fun hHeld => ?_)
    · exact ⟨hHeld.1.below (bAlloc (Below.refl _ _) _) (hHeld.1.lt (by rw [hlA.out]; omega)), hHeld.2.1.below (bAlloc (Below.refl _ _) _) (hHeld.2.1.lt (by rw [hlB.out]; omega)), HR.alloc hHeld.2.2 _⟩
    clear hK K
    try simp only [Act.put, List.setIfInBounds_toArray, List.set_cons_zero, List.set_cons_succ]
    refine stepH 2 (by kernel_rfl) rfl (by rfl) (fun K hK => ?_)
    go_simp
    refine (cA.out _ hHeld.1).mono ?_
    rintro e wvc2 ⟨rfl, hwc2⟩
    subst hwc2
    refine hK.out _ _ ?_ (fun hHeld => ?_)
    · exact hHeld
    clear hK K
    try simp only [Act.put, List.setIfInBounds_toArray, List.set_cons_zero, List.set_cons_succ]
    refine stepH 5 (by kernel_rfl) rfl (by rfl) (fun K hK => ?_)
    go_simp
    refine (cB.out _ hHeld.2.1).mono ?_
    rintro e wvca5 ⟨rfl, hwca5⟩
    subst hwca5
    refine hK.out _ _ ?_ (fun hHeld => ?_)
    · exact hHeld
    clear hK K
    try simp only [Act.put, List.setIfInBounds_toArray, List.set_cons_zero, List.set_cons_succ]
    refine tk 6 hHeld ?_
    have HA := (HR.new H1.out #[.bool false, .int .u64 0, .int .u64 0] 31).drew
    have hth := (HA.row (b := w1.heap.size) (cs := #[.bool false, .int .u64 0, .int .u64 0]) (t := 31) (by simp)).there
    have BX := (HR.otherMany (rs := []) (D := w1.heap.size) (by simp) (Nat.le_refl _) (#[.bool false, .int .u64 X, .int .u64 Y] : Array Value).toList 0 _ (HR.sub (qs := []) ((HR.refl w1).new #[.bool false, .int .u64 0, .int .u64 0] 31).drew (by simp))).2
    refine stepH 8 (by kernel_rfl) rfl (by rfl) (fun K hK => ?_)
    refine wp_store_mid 31 _ _ rfl w1.heap.size 0 #[.bool false, .int .u64 X, .int .u64 Y] rfl rfl hth sizPT (one3 _ _ _) ?_
    refine hK.out _ _ ?_ (fun hHeld => ?_)
    · exact ⟨hA.out.below BX (hA.out.lt (by rw [hlA.out]; omega)), hB.out.below BX (hB.out.lt (by rw [hlB.out]; omega)), HR.otherMany (by have := hl1.out.lt (b := b2) (cs := #[.bool false, .int .u64 0, .int .u64 0]) (t := 31) (by simp); simp; omega) (by have := hl1.out.2.size; omega) (#[.bool false, .int .u64 X, .int .u64 Y] : Array Value).toList 0 _ (HR.sub HA (by simp))⟩
    clear hK K
    refine wpAnyH_done (by kernel_rfl) (NoPanic.normal ?_) _
    have H4 := Lib.hid (HR.putMany (cs := #[.bool false, .int .u64 0, .int .u64 0]) HA (by have := hl1.out.lt (b := b2) (cs := #[.bool false, .int .u64 0, .int .u64 0]) (t := 31) (by simp); simp; omega) (by have := hl1.out.2.size; omega) (#[.bool false, .int .u64 X, .int .u64 Y] : Array Value).toList 0 (by simp) rfl)
    clear hHeld HA BX hth
    generalize (w1.alloc (.cells #[.bool false, .int .u64 0, .int .u64 0] 31)).drew.setCells w1.heap.size 0 (#[.bool false, .int .u64 X, .int .u64 Y] : Array Value).toList = w4 at H4 ⊢
    generalize w1.heap.size = b4 at H4 ⊢
    have hr4 := H4.out.row (b := b4) (cs := #[.bool false, .int .u64 X, .int .u64 Y]) (t := 31) (by simp)
    go_wp2_with (refine wpList_load_row rfl _ _ rfl b4 rfl 31 #[.bool false, .int .u64 X, .int .u64 Y] (0, 0) _ hr4 undP rfl sizPT ?_)
    refine (cI.out _).mono ?_
    rintro e w5 ⟨rfl, hb5⟩
    have H5 := Lib.hid (H4.out.next hb5)
    clear hb5 H4 hr4
    have ei : isPt false X Y = Obol.isC X.toNat Y.toNat := rfl
    rw [ei]
    clear ei
    cases hI : Obol.isC X.toNat Y.toNat
    · have hF := Lib.hid (hNh.out hI)
      clear hI
      go_upto_region 8 with fail
      have h2 := H5.out.row (b := b2) (cs := #[.bool false, .int .u64 0, .int .u64 0]) (t := 31) (by simp)
      have hth := h2.there
      go_wp2_with ((refine wpList_store_mid rfl _ _ _ rfl b2 0 #[.bool false, .int .u64 0, .int .u64 0] rfl rfl hth sizPT (one3 _ _ _) ?_))
      have RZ := h2.store #[.bool false, .int .u64 0, .int .u64 0] rfl
      have HZ := HR.putMany (cs := #[.bool false, .int .u64 0, .int .u64 0]) (t := 31) (rs := []) (HR.sub (qs := [(b2, #[.bool false, .int .u64 0, .int .u64 0], 31)]) H5.out (by simp)) (by simp) (by have := hb.out; omega) (#[.bool false, .int .u64 0, .int .u64 0] : Array Value).toList 0 (by simp) rfl
      exact bodyPost_ret (v := _) (results_two_row9 rfl _ rfl RZ undP rfl sizPT) rfl ⟨⟨_, _, _, _, rfl, (fun h => by cases h), fun _ => hF.out⟩, HZ.2⟩
    · have hF := Lib.hid (hYh.out hI)
      clear hI
      have hr4 := H5.out.row (b := b4) (cs := #[.bool false, .int .u64 X, .int .u64 Y]) (t := 31) (by simp)
      have h2 := H5.out.row (b := b2) (cs := #[.bool false, .int .u64 0, .int .u64 0]) (t := 31) (by simp)
      have hth := h2.there
      go_wp2_with (first | (refine wpList_load_row rfl _ _ rfl b4 rfl 31 #[.bool false, .int .u64 X, .int .u64 Y] (0, 0) _ hr4 undP rfl sizPT ?_) | (refine wpList_store_mid rfl _ _ _ rfl b2 0 #[.bool false, .int .u64 X, .int .u64 Y] rfl rfl hth sizPT (one3 _ _ _) ?_))
      have RZ := h2.store #[.bool false, .int .u64 X, .int .u64 Y] rfl
      have HZ := HR.putMany (cs := #[.bool false, .int .u64 0, .int .u64 0]) (t := 31) (rs := []) (HR.sub (qs := [(b2, #[.bool false, .int .u64 0, .int .u64 0], 31)]) H5.out (by simp)) (by simp) (by have := hb.out; omega) (#[.bool false, .int .u64 X, .int .u64 Y] : Array Value).toList 0 (by simp) rfl
      exact bodyPost_ret (v := _) (results_two_row9 rfl _ rfl RZ undP rfl sizPT) rfl ⟨⟨_, _, _, _, rfl, fun _ => ⟨X0, Y0, hF.out⟩, fun h => by cases h⟩, HZ.2⟩

end Go.Proofs.Ytkfimfjjmdjbdaa
/- Walks: the reference of layer 19: what its reader finds. -/
namespace Go.Proofs.Ytkfimfjjmdjbdaa
open Go.RowKit
set_option linter.unusedVariables false
set_option linter.unusedSimpArgs false

/-- A point of 8 bytes, or that there is none. -/
def FdO (n : Nat) (X Y : Int) (ok : Bool) : Prop := (ok = true → 0 ≤ X ∧ 0 ≤ Y ∧ Obol.readN n = some (X.toNat, Y.toNat)) ∧ (ok = false → Obol.readN n = none)
/-- The bytes of the k-th point of a proof. -/
def ptB (L : List Nat) (k : Nat) : List Nat := (L.drop (posL L k)).take (posL L (k + 1) - posL L k)
def CrO (M : List Nat) (i : Bool) (X Y : Int) (ok : Bool) : Prop := (ok = true → 0 ≤ X ∧ 0 ≤ Y ∧ Obol.crd M = some (i, X.toNat, Y.toNat)) ∧ (ok = false → Obol.crd M = none)
/-- The sealed notes, so far. -/
def NtI (L : List Nat) (b o c : Nat) (j : Nat) (fb : Bool) (p0 q0 : Int) (S0 : Value) (p1 q1 : Int) (S1 : Value) : Prop := match j with
  | 0 => fb = true ∧ p0 = 0 ∧ q0 = 0 ∧ S0 = .slice none 0 0 ∧ p1 = 0 ∧ q1 = 0 ∧ S1 = .slice none 0 0
  | 1 => FdO (numAt L 80) p0 q0 fb ∧ S0 = .slice (some ⟨b, o + 88, none⟩) 32 (c - 88) ∧ p1 = 0 ∧ q1 = 0 ∧ S1 = .slice none 0 0
  | _ => ∃ f0 f1, fb = (f0 && f1) ∧ FdO (numAt L 80) p0 q0 f0 ∧ FdO (numAt L 120) p1 q1 f1 ∧ S0 = .slice (some ⟨b, o + 88, none⟩) 32 (c - 88) ∧ S1 = .slice (some ⟨b, o + 128, none⟩) 32 (c - 128)

/-! slices of points of the curve, of the call's own -/
def ptC (p : Bool × Int × Int) : List Value := [.bool p.1, .int .u64 p.2.1, .int .u64 p.2.2]
def OwnP (w : World) (base : Nat) (v : Value) (P : List (Bool × Int × Int)) : Prop := w.ownsRow base 31 3 v P.length (P.flatMap ptC)
theorem infoP : (Try.prog.info? 31).map (fun i => (i.zero, i.size, i.bytes)) = some (some (.agg #[.bool false, .int .u64 0, .int .u64 0]), 3, 24) := by kernel_rfl
theorem OwnP.nil (w : World) (base : Nat) : OwnP w base (.slice none 0 0) [] := World.ownsRow_nil _ _ _ _
theorem OwnP.below {w w' : World} {base : Nat} {v : Value} {P : List (Bool × Int × Int)} (h : OwnP w base v P) (hb : Below w.heap.size w w') : OwnP w' base v P := by
  refine ⟨h.1, ?_⟩
  rcases h.2 with h | ⟨g, cap, cur, h1, h2, h3, h4⟩
  · exact .inl h
  · exact .inr ⟨g, cap, cur, h1, h2, (hb.block g (Array.getElem?_eq_some_iff.1 h3).1).trans h3, h4⟩
/-- Every block that holds no points stays. -/
def KeepP (w w' : World) : Prop := ∀ (k : Nat) (cs : Array Value) (t : TypeId), t ≠ 31 → Row w k cs t → Row w' k cs t
theorem KeepP.grown {W W' : World} {base : Nat} {v : Value} {P : List (Bool × Int × Int)} (hO : OwnP W base v P) (hg : W.grownBy W' v.ownBlock) : KeepP W W' := fun k cs t ht hr => by
  refine (hg.block k hr.lt (fun e => ht ?_)).trans hr
  rcases hO.2 with ⟨rfl, _⟩ | ⟨g, cap, cur, rfl, _, hb, _⟩
  · cases e
  · have : g = k := (by simpa [Value.ownBlock] using e : k = g).symm
    subst this
    have h2 : W.heap[g]? = some (.cells cs t) := hr
    rw [hb] at h2
    injection h2 with h3
    injection h3 with _ h4
    exact h4.symm
theorem append_ownP (W : World) (base : Nat) (v : Value) (P : List (Bool × Int × Int)) (p : Bool × Int × Int) (hown : OwnP W base v P) (hl : P.length ≤ 100) (hbase : base ≤ W.heap.size) :
    ∃ v' W', (∀ ty, (Builtin.append_ #[84, 84] ty #[v, .slice (some ⟨W.heap.size, 0, none⟩) 1 1]).run Try.prog (W.alloc (.cells #[.bool p.1, .int .u64 p.2.1, .int .u64 p.2.2] 31)) = .ok v' W') ∧ OwnP W' base v' (P ++ [p]) ∧ Below base W W' ∧ KeepP W W' := by
  obtain ⟨ti, hti, htz, hts, htb⟩ := info_parts infoP
  have hO := hown.below (bAlloc (Below.refl _ W) (.cells #[.bool p.1, .int .u64 p.2.1, .int .u64 p.2.2] 31))
  have hR : Row (W.alloc (.cells #[.bool p.1, .int .u64 p.2.1, .int .u64 p.2.2] 31)) W.heap.size #[.bool p.1, .int .u64 p.2.1, .int .u64 p.2.2] 31 := Row.new _ _ _
  obtain ⟨v', W', hr, ho, hg, hn⟩ := run_append_own (W.alloc (.cells #[.bool p.1, .int .u64 p.2.1, .int .u64 p.2.2] 31)) base 84 0 31 ti (.agg #[.bool false, .int .u64 0, .int .u64 0]) 3 24 Try.underlying84 hti htz hts htb rfl (by decide) v P.length (P.flatMap ptC) hO
    ⟨W.heap.size, 0, none⟩ 1 1 (ptC p) rfl (fun j u hu => by
      rw [addB, Nat.zero_add]
      match j, hu with
      | 0, hu => simp [ptC] at hu; subst hu; exact hR.cell 0 rfl
      | 1, hu => simp [ptC] at hu; subst hu; exact hR.cell 1 rfl
      | 2, hu => simp [ptC] at hu; subst hu; exact hR.cell 2 rfl
      | n + 3, hu => simp [ptC] at hu) (fun u hu => by
      simp only [ptC, List.mem_cons, List.not_mem_nil, or_false] at hu
      rcases hu with rfl | rfl | rfl <;> rfl) (by unfold maxLen; omega) (by omega) (by rw [World.size_alloc]; omega)
  refine ⟨v', W', fun ty => hr, ?_, ?_, ?_⟩
  · unfold OwnP
    rw [List.length_append, List.flatMap_append]
    simpa using ho
  · exact ((Below.refl base W).alloc hbase _).trans ((Below.refl base _).grown hg (by rw [World.size_alloc]; omega) (fun q hq => (hO.lt q hq).1))
  · intro k cs t ht hr0
    exact KeepP.grown hO hg k cs t ht (hr0.alloc _)
theorem OwnP.shape {w : World} {base : Nat} {v : Value} {P : List (Bool × Int × Int)} (h : OwnP w base v P) (h0 : 0 < P.length) : ∃ g cap cur, v = .slice (some ⟨g, 0, none⟩) P.length cap ∧ P.length ≤ cap ∧ cap ≤ 9223372036854775807 ∧ base ≤ g ∧ Row w g cur 31 ∧ ∀ j, j < P.length * 3 → cur[j]? = (P.flatMap ptC)[j]? := by
  rcases h.2 with ⟨_, h1⟩ | ⟨g, cap, cur, rfl, h2, h3, h4, h5, h6, h7⟩
  · omega
  · exact ⟨g, cap, cur, rfl, h4, by unfold maxLen at h5; omega, h2, h3, fun j hj => by
      rw [← h7, List.getElem?_take, if_pos hj, Array.getElem?_toList]⟩
theorem Row.ne_type {w : World} {b g : Nat} {cs ds : Array Value} {t u : TypeId} (h : Row w b cs t) (k : Row w g ds u) (ht : t ≠ u) : b ≠ g := fun e => by
  subst e
  have h2 : w.heap[b]? = some (.cells cs t) := h
  rw [show w.heap[b]? = some (.cells ds u) from k] at h2
  injection h2 with h3
  injection h3 with _ h4
  exact ht h4.symm
/-- The points of the proof, so far. -/
def PfJ (L : List Nat) (j : Nat) (fb0 fb : Bool) (P : List (Bool × Int × Int)) : Prop := P.length = j ∧ (fb = true → fb0 = true ∧ ∀ i (h : i < P.length), 0 ≤ P[i].2.1 ∧ 0 ≤ P[i].2.2 ∧ Obol.crd (ptB L i) = some (P[i].1, P[i].2.1.toNat, P[i].2.2.toNat)) ∧ (fb = false → fb0 = false ∨ ∃ i, i < 3 ∧ Obol.crd (ptB L i) = none)
theorem PfJ.next {L : List Nat} {j : Nat} {fb0 fb : Bool} {P : List (Bool × Int × Int)} (h : PfJ L j fb0 fb P) (hj : j < 3) {i : Bool} {X Y : Int} {ok : Bool} (hc : CrO (ptB L j) i X Y ok) : PfJ L (j + 1) fb0 (fb && ok) (P ++ [(i, X, Y)]) := by
  obtain ⟨h1, h2, h3⟩ := h
  refine ⟨by rw [List.length_append, h1]; rfl, fun g => ?_, fun g => ?_⟩
  · rw [Bool.and_eq_true] at g
    obtain ⟨g1, g2⟩ := h2 g.1
    refine ⟨g1, fun k hk => ?_⟩
    by_cases hkj : k < P.length
    · rw [List.getElem_append_left hkj]
      exact g2 k hkj
    · have hk2 : k = P.length := by rw [List.length_append] at hk; simp at hk; omega
      subst hk2
      rw [List.getElem_append_right (Nat.le_refl _)]
      simp only [Nat.sub_self, List.getElem_cons_zero]
      rw [h1]
      exact hc.1 g.2
  · cases hf : fb with
    | false => exact h3 hf
    | true =>
      rw [hf, Bool.true_and] at g
      exact .inr ⟨j, hj, hc.2 g⟩

end Go.Proofs.Ytkfimfjjmdjbdaa
/- Plain law: package tx: what the reader gives back of what was written. -/
namespace Obol
theorem tk_app (k : Nat) (M r : List Nat) (h : M.length = k) : tkS k (false, M ++ r) = (false, r) ∧ tkM k (false, M ++ r) = M := by
  subst h
  have hb : tkB M.length (false, M ++ r) = false := by unfold tkB; simp
  unfold tkS tkM
  rw [hb]
  simp
theorem rdN_app (n : Nat) (r : List Nat) (h : n < 18446744073709551616) : rdN (false, be8 n ++ r) = n := by
  unfold rdN
  rw [(tk_app 8 (be8 n) r rfl).2, num_be n h]
theorem tkS_bad (k : Nat) (l : List Nat) : (tkS k (true, l)).1 = true := by unfold tkS tkB; simp
theorem tkS_ok {k : Nat} {s : Rs} (h : (tkS k s).1 = false) : s.1 = false ∧ s.2 = tkM k s ++ (tkS k s).2 := by
  unfold tkS at h ⊢
  unfold tkM
  cases hb : tkB k s with
  | true => rw [hb] at h; simp at h
  | false =>
    unfold tkB at hb
    simp at hb
    simp [hb.1]
theorem ptS_app {p : Nat × Nat} (n : Nat) (r : List Nat) (hr : readN n = some p) (hc : n < 18446744073709551616) : ptS (false, be8 n ++ r) = (false, r) ∧ ptP (false, be8 n ++ r) = p := by
  have e := rdN_app n r hc
  refine ⟨?_, ?_⟩
  · unfold ptS
    rw [e, hr]
    exact (tk_app 8 (be8 n) r rfl).1
  · unfold ptP
    rw [e, hr]
theorem ptS_ok {s : Rs} (h : (ptS s).1 = false) : s.1 = false ∧ s.2 = tkM 8 s ++ (ptS s).2 ∧ readN (rdN s) = some (ptP s) := by
  have hx : (∃ p, readN (rdN s) = some p) ∨ readN (rdN s) = Option.none := by
    cases readN (rdN s) with
    | none => exact .inr rfl
    | some p => exact .inl ⟨p, rfl⟩
  rcases hx with ⟨p, hr⟩ | hr
  · have e1 : ptS s = tkS 8 s := by unfold ptS; rw [hr]
    have e2 : ptP s = p := by unfold ptP; rw [hr]
    rw [e1] at h ⊢
    rw [e2]
    exact ⟨(tkS_ok h).1, (tkS_ok h).2, hr⟩
  · have e1 : ptS s = (true, (tkS 8 s).2) := by unfold ptS; rw [hr]
    rw [e1] at h
    exact absurd h (by simp)
theorem pfS_ok {s : Rs} (h : (pfS s).1 = false) : s.1 = false ∧ s.2 = tkM (pfK s) s ++ (pfS s).2 ∧ crd (tkM (pfK s) s) = some (pfP s) := by
  have hx : (∃ p, crd (tkM (pfK s) s) = some p) ∨ crd (tkM (pfK s) s) = Option.none := by
    cases crd (tkM (pfK s) s) with
    | none => exact .inr rfl
    | some p => exact .inl ⟨p, rfl⟩
  rcases hx with ⟨p, hr⟩ | hr
  · have e1 : pfS s = tkS (pfK s) s := by unfold pfS; rw [hr]
    have e2 : pfP s = p := by unfold pfP; rw [hr]
    rw [e1] at h ⊢
    rw [e2]
    exact ⟨(tkS_ok h).1, (tkS_ok h).2, hr⟩
  · have e1 : pfS s = (true, (tkS (pfK s) s).2) := by unfold pfS; rw [hr]
    rw [e1] at h
    exact absurd h (by simp)
end Obol
/- Plain law: package tx: what was written is read as it was; what was read is written as those bytes. -/
namespace Obol
theorem crd_app {A B : List Nat} (hA : A.length = 8) (hB : B.length = 8) (h : isC (num8 A) (num8 B) = true) : crd (1 :: (A ++ B)) = some (false, num8 A, num8 B) := by
  have l : (1 :: (A ++ B)).length = 17 := by rw [List.length_cons, List.length_append, hA, hB]
  have e1 : ((1 :: (A ++ B)).drop 1).take 8 = A := by rw [← hA]; exact List.take_left
  have e2 : (1 :: (A ++ B)).drop 9 = B := by
    show (A ++ B).drop 8 = B
    rw [← hA]; exact List.drop_left
  unfold crd
  rw [if_neg (by rw [l]; simp), if_pos ⟨l, rfl⟩, e1, e2, if_pos h]
theorem be8_len (n : Nat) : (be8 n).length = 8 := rfl
theorem pfK_one (X : List Nat) (h : X.getD 0 0 = 1) (h0 : 0 < X.length) : pfK (false, X) = 17 := by unfold pfK; rw [if_pos ⟨h0, h⟩]
theorem pfK_two (X : List Nat) (h : X.getD 0 0 ≠ 1) : pfK (false, X) = 1 := by unfold pfK; rw [if_neg (fun g => h g.2)]
theorem pfS_of {s : Rs} {p : Bool × Nat × Nat} (h : crd (tkM (pfK s) s) = some p) : pfS s = tkS (pfK s) s ∧ pfP s = p := by
  refine ⟨?_, ?_⟩
  · unfold pfS; rw [h]
  · unfold pfP; rw [h]
theorem pfS_app0 (r : List Nat) : pfS (false, 0 :: r) = (false, r) ∧ pfP (false, 0 :: r) = (true, 0, 0) := by
  have k : pfK (false, 0 :: r) = 1 := pfK_two _ (by simp)
  have t := tk_app 1 [0] r rfl
  have hc : crd (tkM (pfK (false, 0 :: r)) (false, 0 :: r)) = some (true, 0, 0) := by
    rw [k]
    show crd (tkM 1 (false, [0] ++ r)) = _
    rw [t.2]
    unfold crd
    rw [if_pos ⟨rfl, rfl⟩]
  obtain ⟨e1, e2⟩ := pfS_of hc
  rw [e1, e2, k]
  exact ⟨t.1, rfl⟩
theorem pfS_app1 {A B : List Nat} (hA : A.length = 8) (hB : B.length = 8) (h : isC (num8 A) (num8 B) = true) (r : List Nat) :
    pfS (false, (1 :: (A ++ B)) ++ r) = (false, r) ∧ pfP (false, (1 :: (A ++ B)) ++ r) = (false, num8 A, num8 B) := by
  have k : pfK (false, (1 :: (A ++ B)) ++ r) = 17 := pfK_one _ rfl (by simp)
  have t := tk_app 17 (1 :: (A ++ B)) r (by rw [List.length_cons, List.length_append, hA, hB])
  have hc : crd (tkM (pfK (false, (1 :: (A ++ B)) ++ r)) (false, (1 :: (A ++ B)) ++ r)) = some (false, num8 A, num8 B) := by
    rw [k, t.2]
    exact crd_app hA hB h
  obtain ⟨e1, e2⟩ := pfS_of hc
  rw [e1, e2, k]
  exact ⟨t.1, rfl⟩
theorem isC_lt {x y : Nat} (h : isC x y = true) : x < 18446744073709551616 ∧ y < 18446744073709551616 := by
  unfold isC at h
  simp only [Bool.and_eq_true, decide_eq_true_eq] at h
  have e : P < 18446744073709551616 := by decide
  omega
theorem pfS_app (i : Bool) (x y : Nat) (r : List Nat) (h : if i = true then x = 0 ∧ y = 0 else isC x y = true) : pfS (false, ptL i x y ++ r) = (false, r) ∧ pfP (false, ptL i x y ++ r) = (i, x, y) := by
  cases i
  · rw [if_neg (by simp)] at h
    have hl := isC_lt h
    have e : ptL false x y = 1 :: (be8 x ++ be8 y) := by unfold ptL; rw [if_neg (by simp)]
    have nx := num_be x hl.1
    have ny := num_be y hl.2
    have q := pfS_app1 (be8_len x) (be8_len y) (by rw [nx, ny]; exact h) r
    rw [nx, ny] at q
    rw [e]
    exact q
  · rw [if_pos rfl] at h
    obtain ⟨rfl, rfl⟩ := h
    exact pfS_app0 r
/-- Bytes that were read as a point are the point's. -/
theorem crd_ok {M : List Nat} {p : Bool × Nat × Nat} (hb : ∀ i, M.getD i 0 < 256) (h : crd M = some p) : ptL p.1 p.2.1 p.2.2 = M := by
  unfold crd at h
  split at h
  · rename_i hc
    simp only [Option.some.injEq] at h
    subst h
    obtain ⟨h1, h2⟩ := hc
    match M, h1, h2 with
    | [a], _, h2 =>
      have : a = 0 := h2
      subst this
      rfl
  · split at h
    · rename_i hc
      obtain ⟨h1, h2⟩ := hc
      split at h
      · simp only [Option.some.injEq] at h
        subst h
        unfold ptL
        rw [if_neg (by simp)]
        have q1 : be8 (num8 ((M.drop 1).take 8)) = (M.drop 1).take 8 := be_num8 (fun x hx => mem_lt hb x (List.mem_of_mem_drop (List.mem_of_mem_take hx))) (by simp [h1])
        have q2 : be8 (num8 (M.drop 9)) = M.drop 9 := be_num8 (fun x hx => mem_lt hb x (List.mem_of_mem_drop hx)) (by simp [h1])
        show 1 :: (be8 (num8 ((M.drop 1).take 8)) ++ be8 (num8 (M.drop 9))) = M
        rw [q1, q2]
        have q3 : M.drop 9 = (M.drop 1).drop 8 := by rw [List.drop_drop]
        rw [q3, List.take_append_drop]
        match M, h1, h2 with
        | a :: l, _, h2 =>
          have : a = 1 := h2
          subst this
          rfl
      · cases h
    · cases h
/-- The code of a point that was read is the number that was read. -/
theorem code_read {n : Nat} (h : n < 18446744073709551616) {p : Nat × Nat} (hp : readN n = some p) : codeN p = n := by
  obtain ⟨_, _, _, h4, h5⟩ := (read_is n h).2 p hp
  unfold codeN
  rw [h4, h5]
  omega
theorem be_rdN {s : Rs} (h : ∀ i, s.2.getD i 0 < 256) : be8 (rdN s) = tkM 8 s := be_num8 (mem_lt (tkM_lt 8 h)) (tkM_len 8 s)
theorem be_ptP {s : Rs} (h : ∀ i, s.2.getD i 0 < 256) (hr : readN (rdN s) = some (ptP s)) : be8 (codeN (ptP s)) = tkM 8 s := by
  rw [code_read (rdN_lt h) hr]; exact be_rdN h
theorem codeN_lt {p : Nat × Nat} (h : isN p = true) : codeN p < 18446744073709551616 := by
  unfold isN at h
  simp only [Bool.and_eq_true, decide_eq_true_eq] at h
  unfold codeN
  have e : R < 9223372036854775808 := by decide
  omega
theorem ptS_code {p : Nat × Nat} (r : List Nat) (h : isN p = true) : ptS (false, be8 (codeN p) ++ r) = (false, r) ∧ ptP (false, be8 (codeN p) ++ r) = p :=
  ptS_app (codeN p) r (read_code h) (codeN_lt h)
end Obol
/- Plain law: package tx: the reader's chain over what was written, and over any bytes. -/
namespace Obol
def Bd (s : Rs) : Prop := ∀ i, s.2.getD i 0 < 256
theorem stN {s s' : Rs} (h : Bd s) (e : tkS 8 s = s') : Bd s' ∧ (s'.1 = false → s.1 = false ∧ s.2 = be8 (rdN s) ++ s'.2) := by
  subst e
  refine ⟨tkS_lt 8 h, fun g => ?_⟩
  rw [be_rdN h]
  exact tkS_ok g
theorem stB {s s' : Rs} (h : Bd s) (e : tkS 32 s = s') : Bd s' ∧ (s'.1 = false → s.1 = false ∧ s.2 = tkM 32 s ++ s'.2) := by
  subst e
  exact ⟨tkS_lt 32 h, fun g => tkS_ok g⟩
theorem stP {s s' : Rs} (h : Bd s) (e : ptS s = s') : Bd s' ∧ (s'.1 = false → s.1 = false ∧ s.2 = be8 (codeN (ptP s)) ++ s'.2) := by
  subst e
  refine ⟨ptS_lt h, fun g => ?_⟩
  obtain ⟨h1, h2, h3⟩ := ptS_ok g
  rw [be_ptP h h3]
  exact ⟨h1, h2⟩
theorem stF1 {s s' : Rs} (h : Bd s) (e : pfS s = s') : Bd s' ∧ (s'.1 = false → s.1 = false ∧ s.2 = ptL (pfP s).1 (pfP s).2.1 (pfP s).2.2 ++ s'.2) := by
  subst e
  refine ⟨pfS_lt h, fun g => ?_⟩
  obtain ⟨h1, h2, h3⟩ := pfS_ok g
  rw [crd_ok (tkM_lt _ h) h3]
  exact ⟨h1, h2⟩
theorem pfV_at (s : Rs) (k : Nat) (h : k < 3) : pfV s 3 k = pfP (pfN s k) := by unfold pfV; rw [if_pos h]
theorem stF {s s' : Rs} (h : Bd s) (e : pfN s 3 = s') : Bd s' ∧ (s'.1 = false → s.1 = false ∧ s.2 = ptL (pfV s 3 0).1 (pfV s 3 0).2.1 (pfV s 3 0).2.2 ++ (ptL (pfV s 3 1).1 (pfV s 3 1).2.1 (pfV s 3 1).2.2 ++ (ptL (pfV s 3 2).1 (pfV s 3 2).2.1 (pfV s 3 2).2.2 ++ s'.2))) := by
  rw [pfV_at s 0 (by decide), pfV_at s 1 (by decide), pfV_at s 2 (by decide)]
  have a0 := stF1 h (rfl : pfS s = pfN s 1)
  have a1 := stF1 a0.1 (rfl : pfS (pfN s 1) = pfN s 2)
  have a2 := stF1 a1.1 (show pfS (pfN s 2) = s' from e)
  refine ⟨a2.1, fun g => ?_⟩
  obtain ⟨h2, e2⟩ := a2.2 g
  obtain ⟨h1, e1⟩ := a1.2 h2
  obtain ⟨h0, e0⟩ := a0.2 h1
  refine ⟨h0, ?_⟩
  rw [e0, e1, e2]
  rfl
theorem bkN {s s' : Rs} {v : Nat} {r : List Nat} (e : tkS 8 s = s') (hs : s = (false, be8 v ++ r)) (hv : v < 18446744073709551616) : s' = (false, r) ∧ rdN s = v := by
  subst e hs
  exact ⟨(tk_app 8 (be8 v) r (be8_len v)).1, rdN_app v r hv⟩
theorem bkB {s s' : Rs} {M r : List Nat} (e : tkS 32 s = s') (hs : s = (false, M ++ r)) (hM : M.length = 32) : s' = (false, r) ∧ tkM 32 s = M := by
  subst e hs
  exact tk_app 32 M r hM
theorem bkP {s s' : Rs} {p : Nat × Nat} {r : List Nat} (e : ptS s = s') (hs : s = (false, be8 (codeN p) ++ r)) (hp : isN p = true) : s' = (false, r) ∧ ptP s = p := by
  subst e hs
  exact ptS_code r hp
theorem bkF {s s' : Rs} {i0 i1 i2 : Bool} {x0 y0 x1 y1 x2 y2 : Nat} {r : List Nat} (e : pfN s 3 = s') (hs : s = (false, ptL i0 x0 y0 ++ (ptL i1 x1 y1 ++ (ptL i2 x2 y2 ++ r))))
    (h0 : if i0 = true then x0 = 0 ∧ y0 = 0 else isC x0 y0 = true) (h1 : if i1 = true then x1 = 0 ∧ y1 = 0 else isC x1 y1 = true) (h2 : if i2 = true then x2 = 0 ∧ y2 = 0 else isC x2 y2 = true) :
    s' = (false, r) ∧ pfV s 3 0 = (i0, x0, y0) ∧ pfV s 3 1 = (i1, x1, y1) ∧ pfV s 3 2 = (i2, x2, y2) := by
  rw [pfV_at s 0 (by decide), pfV_at s 1 (by decide), pfV_at s 2 (by decide)]
  have a0 := pfS_app i0 x0 y0 (ptL i1 x1 y1 ++ (ptL i2 x2 y2 ++ r)) h0
  rw [← hs] at a0
  have a1 := pfS_app i1 x1 y1 (ptL i2 x2 y2 ++ r) h1
  rw [← a0.1] at a1
  have a2 := pfS_app i2 x2 y2 r h2
  rw [← a1.1] at a2
  refine ⟨?_, a0.2, a1.2, a2.2⟩
  rw [← e]
  exact a2.1
end Obol
namespace Go.Proofs.Ytkfimfjjmdjbdaa
open Go.RowKit
theorem pt_plain {i : Bool} {x y : Int} (h : isPt i x y = true) : if i = true then x.toNat = 0 ∧ y.toNat = 0 else Obol.isC x.toNat y.toNat = true := by
  unfold isPt at h
  cases i
  · rw [if_neg (by simp)] at h ⊢
    exact h
  · rw [if_pos rfl] at h ⊢
    simp only [Bool.and_eq_true, beq_iff_eq] at h
    omega
theorem wriL_flat (t : TxD) (L0 L1 r : List Nat) : wriL t L0 L1 ++ r = Obol.be8 t.root.toNat ++ (Obol.be8 t.inn.toNat ++ (Obol.be8 t.out.toNat ++ (Obol.be8 (Obol.codeN (t.fx.toNat, t.fy.toNat)) ++ (Obol.be8 (Obol.codeN (t.tx.toNat, t.ty.toNat)) ++ (Obol.be8 t.seq.toNat ++ (Obol.be8 t.e0.toNat ++ (Obol.be8 t.e1.toNat ++ (Obol.be8 t.m0.toNat ++ (Obol.be8 t.m1.toNat ++ (Obol.be8 (Obol.codeN (t.n0x.toNat, t.n0y.toNat)) ++ (L0 ++ (Obol.be8 (Obol.codeN (t.n1x.toNat, t.n1y.toNat)) ++ (L1 ++ (Obol.be8 t.a0.toNat ++ (Obol.be8 t.a1.toNat ++ (Obol.ptL t.ia t.xa.toNat t.ya.toNat ++ (Obol.ptL t.ib t.xb.toNat t.yb.toNat ++ (Obol.ptL t.ic t.xc.toNat t.yc.toNat ++ (Obol.be8 (Obol.codeN (t.gx.toNat, t.gy.toNat)) ++ (Obol.be8 t.gz.toNat ++ (r))))))))))))))))))))) := by
  unfold wriL bodL hd4 hd3 hd2 hd1 Obol.be8s edC prL
  simp only [List.append_assoc, List.flatMap_cons, List.flatMap_nil, List.append_nil, List.nil_append]
set_option maxHeartbeats 4000000 in
/-- Bytes that were read are the transaction's, and those behind it. -/
theorem rdc_read {L : List Nat} {t : TxD} {M0 M1 : List Nat} {z : Obol.Rs} (h : RdC L t M0 M1 z) (hb : ∀ i, L.getD i 0 < 256) (hzf : z.1 = false) : L = wriL t M0 M1 ++ z.2 := by
  rw [wriL_flat]
  obtain ⟨s0, s1, s2, s3, s4, s5, s6, s7, s8, s9, s10, s11, s12, s13, s14, s15, s16, s17, s18, s19, hs0, hs1, hs2, hs3, hs4, hs5, hs6, hs7, hs8, hs9, hs10, hs11, hs12, hs13, hs14, hs15, hs16, hs17, hs18, hs19, hz, hM0, hM1, v_root, v_inn, v_out, v_fx, v_fy, v_tx, v_ty, v_seq, v_e0, v_e1, v_m0, v_m1, v_n0x, v_n0y, v_n1x, v_n1y, v_a0, v_a1, v_ia, v_xa, v_ya, v_ib, v_xb, v_yb, v_ic, v_xc, v_yc, v_gx, v_gy, v_gz⟩ := h
  have b0 : Obol.Bd s0 := by rw [← hs0]; exact hb
  have a0 := Obol.stN b0 hs1
  have b1 := a0.1
  have a1 := Obol.stN b1 hs2
  have b2 := a1.1
  have a2 := Obol.stN b2 hs3
  have b3 := a2.1
  have a3 := Obol.stP b3 hs4
  have b4 := a3.1
  have a4 := Obol.stP b4 hs5
  have b5 := a4.1
  have a5 := Obol.stN b5 hs6
  have b6 := a5.1
  have a6 := Obol.stN b6 hs7
  have b7 := a6.1
  have a7 := Obol.stN b7 hs8
  have b8 := a7.1
  have a8 := Obol.stN b8 hs9
  have b9 := a8.1
  have a9 := Obol.stN b9 hs10
  have b10 := a9.1
  have a10 := Obol.stP b10 hs11
  have b11 := a10.1
  have a11 := Obol.stB b11 hs12
  have b12 := a11.1
  have a12 := Obol.stP b12 hs13
  have b13 := a12.1
  have a13 := Obol.stB b13 hs14
  have b14 := a13.1
  have a14 := Obol.stN b14 hs15
  have b15 := a14.1
  have a15 := Obol.stN b15 hs16
  have b16 := a15.1
  have a16 := Obol.stF b16 hs17
  have b17 := a16.1
  have a17 := Obol.stP b17 hs18
  have b18 := a17.1
  have a18 := Obol.stN b18 hs19
  have b19 := a18.1
  rw [← hz] at hzf ⊢
  obtain ⟨f18, e18⟩ := a18.2 hzf
  obtain ⟨f17, e17⟩ := a17.2 f18
  obtain ⟨f16, e16⟩ := a16.2 f17
  obtain ⟨f15, e15⟩ := a15.2 f16
  obtain ⟨f14, e14⟩ := a14.2 f15
  obtain ⟨f13, e13⟩ := a13.2 f14
  obtain ⟨f12, e12⟩ := a12.2 f13
  obtain ⟨f11, e11⟩ := a11.2 f12
  obtain ⟨f10, e10⟩ := a10.2 f11
  obtain ⟨f9, e9⟩ := a9.2 f10
  obtain ⟨f8, e8⟩ := a8.2 f9
  obtain ⟨f7, e7⟩ := a7.2 f8
  obtain ⟨f6, e6⟩ := a6.2 f7
  obtain ⟨f5, e5⟩ := a5.2 f6
  obtain ⟨f4, e4⟩ := a4.2 f5
  obtain ⟨f3, e3⟩ := a3.2 f4
  obtain ⟨f2, e2⟩ := a2.2 f3
  obtain ⟨f1, e1⟩ := a1.2 f2
  obtain ⟨f0, e0⟩ := a0.2 f1
  have eL : L = s0.2 := by rw [← hs0]
  have n_root := congrArg Int.toNat v_root
  rw [Int.toNat_natCast] at n_root
  have n_inn := congrArg Int.toNat v_inn
  rw [Int.toNat_natCast] at n_inn
  have n_out := congrArg Int.toNat v_out
  rw [Int.toNat_natCast] at n_out
  have n_fx := congrArg Int.toNat v_fx
  rw [Int.toNat_natCast] at n_fx
  have n_fy := congrArg Int.toNat v_fy
  rw [Int.toNat_natCast] at n_fy
  have n_tx := congrArg Int.toNat v_tx
  rw [Int.toNat_natCast] at n_tx
  have n_ty := congrArg Int.toNat v_ty
  rw [Int.toNat_natCast] at n_ty
  have n_seq := congrArg Int.toNat v_seq
  rw [Int.toNat_natCast] at n_seq
  have n_e0 := congrArg Int.toNat v_e0
  rw [Int.toNat_natCast] at n_e0
  have n_e1 := congrArg Int.toNat v_e1
  rw [Int.toNat_natCast] at n_e1
  have n_m0 := congrArg Int.toNat v_m0
  rw [Int.toNat_natCast] at n_m0
  have n_m1 := congrArg Int.toNat v_m1
  rw [Int.toNat_natCast] at n_m1
  have n_n0x := congrArg Int.toNat v_n0x
  rw [Int.toNat_natCast] at n_n0x
  have n_n0y := congrArg Int.toNat v_n0y
  rw [Int.toNat_natCast] at n_n0y
  have n_n1x := congrArg Int.toNat v_n1x
  rw [Int.toNat_natCast] at n_n1x
  have n_n1y := congrArg Int.toNat v_n1y
  rw [Int.toNat_natCast] at n_n1y
  have n_a0 := congrArg Int.toNat v_a0
  rw [Int.toNat_natCast] at n_a0
  have n_a1 := congrArg Int.toNat v_a1
  rw [Int.toNat_natCast] at n_a1
  have n_xa := congrArg Int.toNat v_xa
  rw [Int.toNat_natCast] at n_xa
  have n_ya := congrArg Int.toNat v_ya
  rw [Int.toNat_natCast] at n_ya
  have n_xb := congrArg Int.toNat v_xb
  rw [Int.toNat_natCast] at n_xb
  have n_yb := congrArg Int.toNat v_yb
  rw [Int.toNat_natCast] at n_yb
  have n_xc := congrArg Int.toNat v_xc
  rw [Int.toNat_natCast] at n_xc
  have n_yc := congrArg Int.toNat v_yc
  rw [Int.toNat_natCast] at n_yc
  have n_gx := congrArg Int.toNat v_gx
  rw [Int.toNat_natCast] at n_gx
  have n_gy := congrArg Int.toNat v_gy
  rw [Int.toNat_natCast] at n_gy
  have n_gz := congrArg Int.toNat v_gz
  rw [Int.toNat_natCast] at n_gz
  rw [eL, e0, e1, e2, e3, e4, e5, e6, e7, e8, e9, e10, e11, e12, e13, e14, e15, e16, e17, e18]
  rw [← n_root, ← n_inn, ← n_out, ← n_fx, ← n_fy, ← n_tx, ← n_ty, ← n_seq, ← n_e0, ← n_e1, ← n_m0, ← n_m1, ← n_n0x, ← n_n0y, ← n_n1x, ← n_n1y, ← n_a0, ← n_a1, ← v_ia, ← n_xa, ← n_ya, ← v_ib, ← n_xb, ← n_yb, ← v_ic, ← n_xc, ← n_yc, ← n_gx, ← n_gy, ← n_gz, ← hM0, ← hM1]
/-- Alike but for where the bodies lie. -/
def Alike (t u : TxD) : Prop := t.root = u.root ∧ t.inn = u.inn ∧ t.out = u.out ∧ t.fx = u.fx ∧ t.fy = u.fy ∧ t.tx = u.tx ∧ t.ty = u.ty ∧ t.seq = u.seq ∧ t.e0 = u.e0 ∧ t.e1 = u.e1 ∧ t.m0 = u.m0 ∧ t.m1 = u.m1 ∧ t.n0x = u.n0x ∧ t.n0y = u.n0y ∧ t.n1x = u.n1x ∧ t.n1y = u.n1y ∧ t.a0 = u.a0 ∧ t.a1 = u.a1 ∧ t.ia = u.ia ∧ t.xa = u.xa ∧ t.ya = u.ya ∧ t.ib = u.ib ∧ t.xb = u.xb ∧ t.yb = u.yb ∧ t.ic = u.ic ∧ t.xc = u.xc ∧ t.yc = u.yc ∧ t.gx = u.gx ∧ t.gy = u.gy ∧ t.gz = u.gz
set_option maxHeartbeats 4000000 in
theorem rdc_back {L r : List Nat} {t u : TxD} {M0 M1 L0 L1 : List Nat} {z : Obol.Rs} (hL : L = wriL u L0 L1 ++ r) (hu : TxOk u) (hm : MayI u) (h0 : L0.length = 32) (h1 : L1.length = 32) (h : RdC L t M0 M1 z) :
    Alike t u ∧ M0 = L0 ∧ M1 = L1 ∧ z = (false, r) := by
  rw [wriL_flat] at hL
  obtain ⟨s0, s1, s2, s3, s4, s5, s6, s7, s8, s9, s10, s11, s12, s13, s14, s15, s16, s17, s18, s19, hs0, hs1, hs2, hs3, hs4, hs5, hs6, hs7, hs8, hs9, hs10, hs11, hs12, hs13, hs14, hs15, hs16, hs17, hs18, hs19, hz, hM0, hM1, v_root, v_inn, v_out, v_fx, v_fy, v_tx, v_ty, v_seq, v_e0, v_e1, v_m0, v_m1, v_n0x, v_n0y, v_n1x, v_n1y, v_a0, v_a1, v_ia, v_xa, v_ya, v_ib, v_xb, v_yb, v_ic, v_xc, v_yc, v_gx, v_gy, v_gz⟩ := h
  have g0 : s0 = _ := hs0.symm.trans (congrArg (fun l => (false, l)) hL)
  obtain ⟨g1, q_root⟩ := Obol.bkN hs1 g0 (by have := hu.root1; omega)
  obtain ⟨g2, q_inn⟩ := Obol.bkN hs2 g1 (by have := hu.inn1; omega)
  obtain ⟨g3, q_out⟩ := Obol.bkN hs3 g2 (by have := hu.out1; omega)
  obtain ⟨g4, q_fx⟩ := Obol.bkP hs4 g3 hm.pf
  obtain ⟨g5, q_tx⟩ := Obol.bkP hs5 g4 hm.pt
  obtain ⟨g6, q_seq⟩ := Obol.bkN hs6 g5 (by have := hu.seq1; omega)
  obtain ⟨g7, q_e0⟩ := Obol.bkN hs7 g6 (by have := hu.e01; omega)
  obtain ⟨g8, q_e1⟩ := Obol.bkN hs8 g7 (by have := hu.e11; omega)
  obtain ⟨g9, q_m0⟩ := Obol.bkN hs9 g8 (by have := hu.m01; omega)
  obtain ⟨g10, q_m1⟩ := Obol.bkN hs10 g9 (by have := hu.m11; omega)
  obtain ⟨g11, q_n0x⟩ := Obol.bkP hs11 g10 hm.pn0
  obtain ⟨g12, q_M0⟩ := Obol.bkB hs12 g11 h0
  obtain ⟨g13, q_n1x⟩ := Obol.bkP hs13 g12 hm.pn1
  obtain ⟨g14, q_M1⟩ := Obol.bkB hs14 g13 h1
  obtain ⟨g15, q_a0⟩ := Obol.bkN hs15 g14 (by have := hu.a01; omega)
  obtain ⟨g16, q_a1⟩ := Obol.bkN hs16 g15 (by have := hu.a11; omega)
  obtain ⟨g17, q_a, q_b, q_c⟩ := Obol.bkF hs17 g16 (pt_plain hm.pa) (pt_plain hm.pb) (pt_plain hm.pc)
  obtain ⟨g18, q_gx⟩ := Obol.bkP hs18 g17 hm.pg
  obtain ⟨g19, q_gz⟩ := Obol.bkN hs19 g18 (by have := hu.gz1; omega)
  exact ⟨⟨v_root.symm.trans ((congrArg (fun n => ((n : Nat) : Int)) q_root).trans (Int.toNat_of_nonneg hu.root0)),
    v_inn.symm.trans ((congrArg (fun n => ((n : Nat) : Int)) q_inn).trans (Int.toNat_of_nonneg hu.inn0)),
    v_out.symm.trans ((congrArg (fun n => ((n : Nat) : Int)) q_out).trans (Int.toNat_of_nonneg hu.out0)),
    v_fx.symm.trans ((congrArg (fun p => ((p.1 : Nat) : Int)) q_fx).trans (Int.toNat_of_nonneg hu.fx0)),
    v_fy.symm.trans ((congrArg (fun p => ((p.2 : Nat) : Int)) q_fx).trans (Int.toNat_of_nonneg hu.fy0)),
    v_tx.symm.trans ((congrArg (fun p => ((p.1 : Nat) : Int)) q_tx).trans (Int.toNat_of_nonneg hu.tx0)),
    v_ty.symm.trans ((congrArg (fun p => ((p.2 : Nat) : Int)) q_tx).trans (Int.toNat_of_nonneg hu.ty0)),
    v_seq.symm.trans ((congrArg (fun n => ((n : Nat) : Int)) q_seq).trans (Int.toNat_of_nonneg hu.seq0)),
    v_e0.symm.trans ((congrArg (fun n => ((n : Nat) : Int)) q_e0).trans (Int.toNat_of_nonneg hu.e00)),
    v_e1.symm.trans ((congrArg (fun n => ((n : Nat) : Int)) q_e1).trans (Int.toNat_of_nonneg hu.e10)),
    v_m0.symm.trans ((congrArg (fun n => ((n : Nat) : Int)) q_m0).trans (Int.toNat_of_nonneg hu.m00)),
    v_m1.symm.trans ((congrArg (fun n => ((n : Nat) : Int)) q_m1).trans (Int.toNat_of_nonneg hu.m10)),
    v_n0x.symm.trans ((congrArg (fun p => ((p.1 : Nat) : Int)) q_n0x).trans (Int.toNat_of_nonneg hu.n0x0)),
    v_n0y.symm.trans ((congrArg (fun p => ((p.2 : Nat) : Int)) q_n0x).trans (Int.toNat_of_nonneg hu.n0y0)),
    v_n1x.symm.trans ((congrArg (fun p => ((p.1 : Nat) : Int)) q_n1x).trans (Int.toNat_of_nonneg hu.n1x0)),
    v_n1y.symm.trans ((congrArg (fun p => ((p.2 : Nat) : Int)) q_n1x).trans (Int.toNat_of_nonneg hu.n1y0)),
    v_a0.symm.trans ((congrArg (fun n => ((n : Nat) : Int)) q_a0).trans (Int.toNat_of_nonneg hu.a00)),
    v_a1.symm.trans ((congrArg (fun n => ((n : Nat) : Int)) q_a1).trans (Int.toNat_of_nonneg hu.a10)),
    v_ia.symm.trans (congrArg (·.1) q_a),
    v_xa.symm.trans ((congrArg (fun p => ((p.2.1 : Nat) : Int)) q_a).trans (Int.toNat_of_nonneg hu.xa0)),
    v_ya.symm.trans ((congrArg (fun p => ((p.2.2 : Nat) : Int)) q_a).trans (Int.toNat_of_nonneg hu.ya0)),
    v_ib.symm.trans (congrArg (·.1) q_b),
    v_xb.symm.trans ((congrArg (fun p => ((p.2.1 : Nat) : Int)) q_b).trans (Int.toNat_of_nonneg hu.xb0)),
    v_yb.symm.trans ((congrArg (fun p => ((p.2.2 : Nat) : Int)) q_b).trans (Int.toNat_of_nonneg hu.yb0)),
    v_ic.symm.trans (congrArg (·.1) q_c),
    v_xc.symm.trans ((congrArg (fun p => ((p.2.1 : Nat) : Int)) q_c).trans (Int.toNat_of_nonneg hu.xc0)),
    v_yc.symm.trans ((congrArg (fun p => ((p.2.2 : Nat) : Int)) q_c).trans (Int.toNat_of_nonneg hu.yc0)),
    v_gx.symm.trans ((congrArg (fun p => ((p.1 : Nat) : Int)) q_gx).trans (Int.toNat_of_nonneg hu.gx0)),
    v_gy.symm.trans ((congrArg (fun p => ((p.2 : Nat) : Int)) q_gx).trans (Int.toNat_of_nonneg hu.gy0)),
    v_gz.symm.trans ((congrArg (fun n => ((n : Nat) : Int)) q_gz).trans (Int.toNat_of_nonneg hu.gz0))⟩, hM0.symm.trans q_M0, hM1.symm.trans q_M1, hz.symm.trans g19⟩
theorem Alike.may {t u : TxD} (h : Alike t u) (h0 : t.l0 = u.l0) (h1 : t.l1 = u.l1) : mayB t = mayB u := by
  obtain ⟨eroot, einn, eout, efx, efy, etx, ety, eseq, ee0, ee1, em0, em1, en0x, en0y, en1x, en1y, ea0, ea1, eia, exa, eya, eib, exb, eyb, eic, exc, eyc, egx, egy, egz⟩ := h
  unfold mayB c1 c2 c4 c5 numsL
  rw [eroot, einn, eout, efx, efy, etx, ety, eseq, ee0, ee1, em0, em1, en0x, en0y, en1x, en1y, ea0, ea1, eia, exa, eya, eib, exb, eyb, eic, exc, eyc, egx, egy, egz, h0, h1]
end Go.Proofs.Ytkfimfjjmdjbdaa
