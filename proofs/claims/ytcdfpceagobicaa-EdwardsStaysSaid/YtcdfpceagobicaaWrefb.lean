import Derived.Test.YtcdfpceagobicaaWref7
import Derived.Test.YtcdfpceagobicaaWread
import Derived.Test.YtcdfpceagobicaaWown
/- Walks: the references of layers 1, 2, 7: squares, numbers of bytes, bytes of numbers. -/
namespace Go.Proofs.Ytcdfpceagobicaa
open Go.RowKit

theorem r7Square (y : Int) (hy : 0 ≤ y) (w : World) :
    Calls Try.prog 9 #[.int .u64 y] w fun e w' => e = .returned (.int .u64 ((sqY y.toNat : Nat) : Int)) ∧ ∃ n, w' = w.drewN n := by
  have hq : Hid (sqY y.toNat = Obol.overR (Obol.subR (Obol.mulR y.toNat y.toNat) 1) (Obol.addR 1 (Obol.mulR 439 (Obol.mulR y.toNat y.toNat)))) := Lib.hid rfl
  go_enter Try.func9, Try.ntmps9
  go_wp2_with (first | (go_at_call 22; refine (r7Mul _ _ (by omega) (by omega) _).mono ?_; rintro e w' ⟨rfl, n, rfl⟩) | (go_at_call 25; refine (r7Plus _ _ (by omega) (by omega) _).mono ?_; rintro e w' ⟨rfl, n, rfl⟩) | (go_at_call 24; refine (r7Less _ _ (by omega) (by omega) _).mono ?_; rintro e w' ⟨rfl, n, rfl⟩) | (go_at_call 23; refine (r7Over _ _ (by omega) (by omega) _).mono ?_; rintro e w' ⟨rfl, n, rfl⟩))
  all_goals
    go_ret
    exact ⟨ret_u64 (by rw [hq.out]), _, rfl⟩

theorem r1Square (a : Int) (ha : 0 ≤ a) (w : World) :
    Calls Try.prog 10 #[.int .u64 a] w fun e w' => e = .returned (.bool (Obol.sqB a.toNat)) ∧ w' = w := by
  have e1 : a.tmod 288230376287764481 = a % 288230376287764481 := Int.tmod_eq_emod_of_nonneg ha
  have hmod : a.toNat % Obol.R = (a % 288230376287764481).toNat := by rw [Obol.R_def]; omega
  have hP := fun w => r1Pow 288230376287764481 a 144115188143882240 (by omega) (by omega) ha (by omega) (by omega) w
  rw [litR, litH, Obol.powM] at hP
  by_cases h0 : a % 288230376287764481 = 0
  · have hR : Hid (Obol.sqB a.toNat = true) := Lib.hid (by unfold Obol.sqB; rw [hmod, h0]; rfl)
    clear hmod
    replace hP := Lib.hid hP
    go_enter Try.func10, Try.ntmps10
    go_wp2_with fail
    go_ret
    exact ⟨by rw [hR.out]; rfl, rfl⟩
  · have hz : (a % 288230376287764481 == 0) = false := beq_eq_false_iff_ne.2 h0
    have hR : Hid (Obol.sqB a.toNat = (((a.toNat ^ ((Obol.R - 1) / 2) % Obol.R : Nat) : Int) == 1)) := Lib.hid (by
      unfold Obol.sqB
      have : (a.toNat % Obol.R == 0) = false := by rw [beq_eq_false_iff_ne, hmod]; omega
      rw [this, Bool.false_or, Bool.eq_iff_iff, beq_iff_eq, beq_iff_eq]
      omega)
    clear hmod
    generalize ((a.toNat ^ ((Obol.R - 1) / 2) % Obol.R : Nat) : Int) = p at hP hR
    replace hP := Lib.hid hP
    replace h0 := Lib.hid h0
    go_enter Try.func10, Try.ntmps10
    go_wp2_with (go_at_call 26; refine (hP.out _).mono ?_; rintro e w' ⟨rfl, rfl⟩)
    go_ret
    exact ⟨by rw [hR.out]; rfl, rfl⟩

theorem r2Number (b o cap : Nat) (L : List Nat) (H0 : B8 8 L) (w : World) (hc0 : BL w b o L) :
    Calls Try.prog 8 #[.slice (some ⟨b, o, none⟩) 8 cap] w fun e w' => e = .returned (.int .u64 ((Obol.num8 L : Nat) : Int)) ∧ w' = w := by
  have H := Lib.hid H0
  have C := Lib.hid hc0
  clear hc0 H0
  go_enter Try.func8, Try.ntmps8
  go_wp2
  go_loopw [3, 4] (fun q1 q2 wr => ∃ N i : Int, q1 = .int .u64 N ∧ q2 = .int .i64 i ∧ Hid (ReadI L N i) ∧ wr = w) (fun _ q2 _ => (8 - intOf q2).toNat)
  case atStart => exact ⟨0, 0, rfl, rfl, Lib.hid ⟨by omega, by omega, by omega, by decide, rfl⟩, rfl⟩
  case round =>
    obtain ⟨N, i, rfl, rfl, HI, rfl⟩ := hrel
    have i0 := HI.out.2.1
    have i1 := HI.out.2.2.1
    by_cases hi : i < 8
    · obtain ⟨n0, n1⟩ := HI.out.bound hi
      obtain ⟨v, hv, he, v0, v1⟩ := C.out.at H.out i0 hi
      have HN := Lib.hid (HI.out.step H.out hi he v0 v1)
      clear he
      go_wp2
      exact ⟨⟨_, _, rfl, rfl, HN, trivial⟩, by simp [intOf]; omega⟩
    · obtain rfl : i = 8 := by omega
      have hN := Lib.hid (HI.out.done H.out)
      clear HI
      go_wp2
      go_ret
      exact ⟨ret_u64 hN.out, rfl⟩

/-- The bytes that are laid from the last on. -/
def B2I (n : Nat) (N i : Int) (L : List Nat) : Prop := 0 ≤ N ∧ N ≤ 18446744073709551615 ∧ -1 ≤ i ∧ i ≤ 7 ∧ N.toNat = n / 256 ^ (7 - i).toNat ∧ L.length = 8 ∧ ∀ j : Nat, i < (j : Int) → j < 8 → L.getD j 0 = (Obol.be8 n).getD j 0
theorem be8_get (n j : Nat) (h : j < 8) : (Obol.be8 n).getD j 0 = n / 256 ^ (7 - j) % 256 := by
  match j, h with
  | 0, _ => rfl
  | 1, _ => rfl
  | 2, _ => rfl
  | 3, _ => rfl
  | 4, _ => rfl
  | 5, _ => rfl
  | 6, _ => rfl
  | 7, _ => simp [Obol.be8]
theorem B2I.step {n : Nat} {N i : Int} {L : List Nat} (h : B2I n N i L) (hi : 0 ≤ i) : B2I n (N / 256) (i - 1) (L.set i.toNat (N % 256).toNat) := by
  obtain ⟨h0, h1, h2, h3, h4, h5, h6⟩ := h
  have e : (7 - (i - 1)).toNat = (7 - i).toNat + 1 := by omega
  refine ⟨by omega, by omega, by omega, by omega, ?_, by rw [List.length_set]; exact h5, fun j hj hj8 => ?_⟩
  · rw [e, Nat.pow_succ, ← Nat.div_div_eq_div_mul, ← h4]
    omega
  · rw [List.getD_eq_getElem?_getD, List.getElem?_set]
    by_cases hji : i.toNat = j
    · rw [if_pos hji, if_pos (by omega)]
      rw [be8_get n j hj8, show 7 - j = (7 - i).toNat by omega, ← h4]
      simp only [Option.getD_some]
      omega
    · rw [if_neg hji, ← List.getD_eq_getElem?_getD]
      exact h6 j (by omega) hj8
theorem B2I.done {n : Nat} {N : Int} {L : List Nat} (h : B2I n N (-1) L) : L = Obol.be8 n := by
  obtain ⟨h0, h1, h2, h3, h4, h5, h6⟩ := h
  have hl : (Obol.be8 n).length = 8 := rfl
  refine List.ext_getElem (by omega) fun j h1 h2 => ?_
  have := h6 j (by omega) (by omega)
  rw [List.getD_eq_getElem?_getD, List.getD_eq_getElem?_getD, List.getElem?_eq_getElem h1, List.getElem?_eq_getElem h2] at this
  exact this

abbrev zeros8 : List Nat := [0, 0, 0, 0, 0, 0, 0, 0]
theorem r2Bytes (n : Int) (hn0 : 0 ≤ n) (hn1 : n ≤ 18446744073709551615) (w : World) :
    Calls Try.prog 27 #[.int .u64 n] w fun e w' => e = .returned (.slice (some ⟨w.heap.size, 0, none⟩) 8 8) ∧ Row w' w.heap.size (u8s (Obol.be8 n.toNat)) 5 ∧ Below w.heap.size w w' := by
  obtain ⟨ti, hti, htz, hts, htb⟩ := info_parts info8
  have hmk : ∀ W : World, (Instr.makeSlice 22 (.int .i64 8) (.int .i64 8)).run Try.prog W = .ok (.slice (some ⟨W.heap.size, 0, none⟩) 8 8) (W.alloc (.cells (u8s zeros8) 5)) := fun W => by
    have h := run_make (P := Try.prog) W 22 5 ti (.int .u8 0) Try.underlying22 hti htz .i64 .i64 8 8 (by omega) (by omega) (by rw [htb]; omega) (by omega)
    rw [hts] at h
    rw [h]
    have e : madeCells (Value.int .u8 0).cells 8 = u8s zeros8 := Array.toList_inj.1 ((toList_madeCells_one (.int .u8 0) 8).trans rfl)
    rw [← e]
    rfl
  go_enter Try.func27, Try.ntmps27
  go_wp2_with fail
  go_loopw [0, 4] (fun q1 q2 wr => ∃ (N i : Int) (L : List Nat), q1 = .int .u64 N ∧ q2 = .int .i64 i ∧ Hid (B2I n.toNat N i L) ∧ Row wr w.heap.size (u8s L) 5 ∧ Below w.heap.size w wr) (fun _ q2 _ => (1 + intOf q2).toNat)
  case atStart => exact ⟨n, 7, zeros8, rfl, rfl, Lib.hid ⟨hn0, hn1, by omega, by omega, by simp, rfl, fun j h1 h2 => by omega⟩, Row.new _ _ _, bAlloc (Below.refl _ _) _⟩
  case round =>
    obtain ⟨N, i, L, rfl, rfl, HI, R, B⟩ := hrel
    obtain ⟨n0, n1, i0, i1, -, hL, -⟩ := HI.out
    by_cases hi : 0 ≤ i
    · have HN := Lib.hid (HI.out.step hi)
      have hc := R.cell i.toNat (u8s_get L i.toNat (by omega))
      have hf := R.free i.toNat
      have RN := rowSet8 R i.toNat (N % 256).toNat (z := N % 256) (by omega)
      replace hL := Lib.hid hL
      replace R := Lib.hid R
      replace B := Lib.hid (bSet (o := i.toNat) (u := .int .u8 (N % 256)) B (Nat.le_refl _))
      replace RN := Lib.hid RN
      have ht1 : N.tmod 256 = N % 256 := Int.tmod_eq_emod_of_nonneg n0
      have ht2 : N.tdiv 256 = N / 256 := Int.tdiv_eq_ediv_of_nonneg n0
      go_wp2_with fail
      exact ⟨⟨_, _, _, rfl, rfl, HN, RN.out, B.out⟩, by simp [intOf]; omega⟩
    · obtain rfl : i = -1 := by omega
      have hd := HI.out.done
      rw [hd] at R
      replace R := Lib.hid R
      replace B := Lib.hid B
      clear hd HI
      go_wp2_with fail
      go_ret
      exact ⟨rfl, R.out, B.out⟩

/-- The number of a point. -/
theorem r7Bytes (X Y : Int) (hX : 0 ≤ X) (hX1 : X ≤ 18446744073709551615) (hY : 0 ≤ Y) (hY1 : Y < 9223372036854775808) (w : World) :
    Calls Try.prog 12 #[edV X Y] w fun e w' => ∃ g, e = .returned (.slice (some ⟨g, 0, none⟩) 8 8) ∧ w.heap.size ≤ g ∧ Row w' g (u8s (Obol.be8 (Obol.codeN (X.toNat, Y.toNat)))) 5 ∧ Below w.heap.size w w' := by
  have e1 : X.tmod 2 = X % 2 := Int.tmod_eq_emod_of_nonneg hX
  have hB := fun (n : Int) (h0 : 0 ≤ n) (h1 : n ≤ 18446744073709551615) w => r2Bytes n h0 h1 w
  rcases (by omega : X % 2 = 0 ∨ X % 2 = 1) with hp | hp
  · have hc : Hid (Obol.codeN (X.toNat, Y.toNat) = Y.toNat) := Lib.hid (by unfold Obol.codeN; simp only; omega)
    rw [hp] at e1
    go_enter Try.func12, Try.ntmps12
    go_wp2_with fail
    refine (hB Y hY (by omega) _).mono ?_
    rintro e w' ⟨rfl, R, B⟩
    rw [World.size_alloc] at R
    replace R := Lib.hid R
    replace B := Lib.hid B
    go_wp2_with fail
    go_ret
    refine ⟨_, rfl, by simp, by rw [hc.out]; exact R.out, bThen (bAlloc (Below.refl _ _) _) B.out (by simp)⟩
  · have hc : Hid (Obol.codeN (X.toNat, Y.toNat) = (Y + 9223372036854775808).toNat) := Lib.hid (by unfold Obol.codeN; simp only; omega)
    rw [hp] at e1
    go_enter Try.func12, Try.ntmps12
    go_wp2_with fail
    refine (hB (Y + 9223372036854775808) (by omega) (by omega) _).mono ?_
    rintro e w' ⟨rfl, R, B⟩
    rw [World.size_alloc] at R
    replace R := Lib.hid R
    replace B := Lib.hid B
    go_wp2_with fail
    go_ret
    refine ⟨_, rfl, by simp, by rw [hc.out]; exact R.out, bThen (bAlloc (Below.refl _ _) _) B.out (by simp)⟩

end Go.Proofs.Ytcdfpceagobicaa
