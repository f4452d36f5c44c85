import Derived.Test.YtcdfpceagobicaaWrefb
/- Walks: package edwards: points to bytes. -/
namespace Go.Proofs.Ytcdfpceagobicaa
open Go.RowKit

theorem take_be (n j : Nat) (h : j < 8) : (Obol.be8 n).take (j + 1) = (Obol.be8 n).take j ++ [n / 2 ^ (56 - 8 * j) % 256] := by
  match j, h with
  | 0, _ => rfl
  | 1, _ => rfl
  | 2, _ => rfl
  | 3, _ => rfl
  | 4, _ => rfl
  | 5, _ => rfl
  | 6, _ => rfl
  | 7, _ => simp [Obol.be8]

set_option maxHeartbeats 1000000 in
theorem ePut (base : Nat) (v : Value) (L : List Nat) (k : Int) (hk0 : 0 ≤ k) (hk1 : k ≤ 18446744073709551615) (hL : L.length ≤ 1000) (w : World) (hB : base ≤ w.heap.size) (hown : OwnB w base v L) :
    Calls Try.prog 28 #[v, .int .u64 k] w fun e w' => ∃ v', e = .returned v' ∧ OwnB w' base v' (L ++ Obol.be8 k.toNat) ∧ Below base w w' := by
  obtain ⟨ti, hti, htz, hts, htb⟩ := info_parts info8
  go_enter Try.func28, Try.ntmps28
  go_wp2_with fail
  go_loopw [0, 5] (fun q1 q2 wr => ∃ j : Nat, j ≤ 8 ∧ q2 = .int .i64 (56 - 8 * (j : Int)) ∧ OwnB wr base q1 (L ++ (Obol.be8 k.toNat).take j) ∧ Below base w wr) (fun _ q2 _ => (8 + intOf q2).toNat)
  case atStart => exact ⟨0, by omega, rfl, by simpa using hown, Below.refl _ _⟩
  case round =>
    obtain ⟨j, hj, rfl, hO, hW⟩ := hrel
    have hsz := hW.size
    by_cases hj8 : j < 8
    · have hlen : (L ++ (Obol.be8 k.toNat).take j).length = L.length + j := by simp [Obol.be8]; omega
      go_wp2_with (first
        | (at_builtin; refine wpList_append_own _ rfl _ _ 22 rfl base 5 ti (.int .u8 0) 1 1 Try.underlying22 hti htz hts htb rfl (by decide) _ _ _ rfl (hO.alloc _) ⟨wr.heap.size, 0, none⟩ 1 1 [.int .u8 (k / 2 ^ (56 - 8 * j) % 256)] ?c0 rfl ?c1 ?c2 ?c3 ?c4 ?c5 ?_)
        | go_in)
      case c0 => rfl
      case c1 =>
        intro q u hq
        match q, hq with
        | 0, hq => simp at hq; subst hq; simp [Addr.add]
      case c2 => intro u hu; simp at hu; subst hu; rfl
      case c3 => rw [hlen]; unfold maxLen; omega
      case c4 => rw [hlen]; omega
      case c5 => simp; omega
      · intro v' w1 hown' hgrow _
        have hrow := hO.lt
        have HO : OwnB w1 base v' (L ++ (Obol.be8 k.toNat).take (j + 1)) := by
          have e : L ++ (Obol.be8 k.toNat).take (j + 1) = (L ++ (Obol.be8 k.toNat).take j) ++ [k.toNat / 2 ^ (56 - 8 * j) % 256] := by rw [take_be _ _ hj8, List.append_assoc]
          have e2 : Value.int .u8 (k / 2 ^ (56 - 8 * j) % 256) = Value.int .u8 ((k.toNat / 2 ^ (56 - 8 * j) % 256 : Nat) : Int) := by
            obtain ⟨K, rfl⟩ := Int.eq_ofNat_of_zero_le hk0
            simp
          have e5 : ((L ++ (Obol.be8 k.toNat).take j) ++ [k.toNat / 2 ^ (56 - 8 * j) % 256]).length = L.length + j + 1 := by rw [List.length_append, hlen]; rfl
          unfold OwnB
          rw [e, e5]
          rw [e2] at hown'
          simpa [U8] using hown'
        have HW : Below base w w1 := (hW.alloc (by omega) _).grown hgrow (by simp; omega) (fun q hq => (hrow q hq).1)
        replace HO := Lib.hid HO
        replace HW := Lib.hid HW
        clear hown' hgrow hO hW hrow hlen
        go_wp2
        go_roundw
        case rel => exact ⟨j + 1, by omega, by simp; omega, HO.out, HW.out⟩
        case measure => simp [intOf]; omega
    · obtain rfl : j = 8 := by omega
      go_wp2_with fail
      go_ret
      exact ⟨_, rfl, hO, hW⟩

theorem or_0 {n : Int} (h0 : 0 ≤ n) (h1 : n < 9223372036854775808) : bits .or .u64 n 0 = n := by
  obtain ⟨N, rfl⟩ := Int.eq_ofNat_of_zero_le h0
  have := u64_or_nat N 0 (by omega) (by decide)
  rw [Nat.or_zero] at this
  exact this
theorem or_63 {n : Int} (h0 : 0 ≤ n) (h1 : n < 9223372036854775808) : bits .or .u64 n 9223372036854775808 = n + 9223372036854775808 := by
  obtain ⟨N, rfl⟩ := Int.eq_ofNat_of_zero_le h0
  have e := u64_or_nat N 9223372036854775808 (by omega) (by decide)
  have h2 := Nat.two_pow_add_eq_or_of_lt (i := 63) (b := N) (by omega) 1
  rw [Nat.or_comm, Nat.mul_one] at h2
  rw [show (9223372036854775808 : Int) = ((9223372036854775808 : Nat) : Int) from rfl, e, show (9223372036854775808 : Nat) = 2 ^ 63 from rfl, ← h2]
  omega

/-- What Write tells of no point. -/
theorem eWriteNo (X Y : Int) (hX : 0 ≤ X) (hY : 0 ≤ Y) (hn : Obol.isN (X.toNat, Y.toNat) = false) (w : World) :
    Calls Try.prog 13 #[edV X Y] w fun e w' => e = .returned (.tuple #[.slice none 0 0, errV 1]) ∧ Below w.heap.size w w' := by
  have hI := fun w => eIs X Y hX hY w
  rw [hn] at hI
  replace hI := Lib.hid hI
  clear hn
  go_enter Try.func13, Try.ntmps13
  go_wp2_with fail
  refine (hI.out _).mono ?_
  rintro e w' ⟨rfl, hb⟩
  have B := Lib.hid (bThen (bAlloc (Below.refl w.heap.size w) _) hb (by simp))
  clear hb
  go_wp2_with fail
  go_ret2
  exact ⟨rfl, B.out⟩

theorem eWrite (X Y : Int) (hX : 0 ≤ X) (hY : 0 ≤ Y) (hn : Obol.isN (X.toNat, Y.toNat) = true) (w : World) :
    Calls Try.prog 13 #[edV X Y] w fun e w' => ∃ v, e = .returned (.tuple #[v, .nilIface]) ∧ OwnB w' w.heap.size v (Obol.be8 (Obol.codeN (X.toNat, Y.toNat))) ∧ Below w.heap.size w w' := by
  have hI := fun w => eIs X Y hX hY w
  rw [hn] at hI
  replace hI := Lib.hid hI
  have hlt : X < 288230376287764481 ∧ Y < 288230376287764481 := by
    unfold Obol.isN at hn
    simp only [Bool.and_eq_true, decide_eq_true_eq] at hn
    have h1 := hn.1.1
    have h2 := hn.1.2
    rw [Obol.R_def] at h1 h2
    omega
  have ha := and_1 hX (by omega)
  have ho0 := or_0 hY (by omega)
  have ho1 := or_63 hY (by omega)
  have hP := fun (k : Int) (h0 : 0 ≤ k) (h1 : k ≤ 18446744073709551615) (W : World) (hB : w.heap.size ≤ W.heap.size) => ePut w.heap.size (.slice none 0 0) [] k h0 h1 (by decide) W hB (OwnB.nil _ _)
  replace hP := Lib.hid hP
  clear hn
  rcases (by omega : X % 2 = 0 ∨ X % 2 = 1) with hp | hp
  · have hc : Hid (Obol.codeN (X.toNat, Y.toNat) = Y.toNat) := Lib.hid (by unfold Obol.codeN; simp only; omega)
    rw [hp] at ha
    go_enter Try.func13, Try.ntmps13
    go_wp2_with fail
    refine (hI.out _).mono ?_
    rintro e w1 ⟨rfl, hb⟩
    have R := (Row.new w #[.int .u64 X, .int .u64 Y] 26).below hb (by simp)
    have B := bThen (bAlloc (Below.refl w.heap.size w) _) hb (by simp)
    have g0 := R.cell 0 rfl
    have g1 := R.cell 1 rfl
    have hz := B.size
    replace B := Lib.hid B
    clear hb
    go_wp2_with fail
    refine (hP.out Y hY (by omega) _ hz).mono ?_
    rintro e w2 ⟨v, rfl, hO, hb⟩
    replace hO := Lib.hid hO
    replace B := Lib.hid (B.out.trans hb)
    clear hb
    go_wp2_with fail
    go_ret2
    refine ⟨_, rfl, ?_, B.out⟩
    rw [hc.out]
    exact hO.out
  · have hc : Hid (Obol.codeN (X.toNat, Y.toNat) = (Y + 9223372036854775808).toNat) := Lib.hid (by unfold Obol.codeN; simp only; omega)
    rw [hp] at ha
    go_enter Try.func13, Try.ntmps13
    go_wp2_with fail
    refine (hI.out _).mono ?_
    rintro e w1 ⟨rfl, hb⟩
    have R := (Row.new w #[.int .u64 X, .int .u64 Y] 26).below hb (by simp)
    have B := bThen (bAlloc (Below.refl w.heap.size w) _) hb (by simp)
    have g0 := R.cell 0 rfl
    have g1 := R.cell 1 rfl
    have hz := B.size
    replace B := Lib.hid B
    clear hb
    go_wp2_with fail
    refine (hP.out (Y + 9223372036854775808) (by omega) (by omega) _ hz).mono ?_
    rintro e w2 ⟨v, rfl, hO, hb⟩
    replace hO := Lib.hid hO
    replace B := Lib.hid (B.out.trans hb)
    clear hb
    go_wp2_with fail
    go_ret2
    refine ⟨_, rfl, ?_, B.out⟩
    rw [hc.out]
    exact hO.out

end Go.Proofs.Ytcdfpceagobicaa
