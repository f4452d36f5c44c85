import Derived.Test.YtcdfpceagobicaaWside
import Derived.Test.YtcdfpceagobicaaWbyte
import Derived.Test.YtcdfpceagobicaaCodec
/- Walks: package edwards: bytes to points. -/
namespace Go.Proofs.Ytcdfpceagobicaa
open Go.RowKit

/-- What Read tells of a number. -/
noncomputable def readV (n : Nat) : Value := match Obol.readN n with
  | .some p => .tuple #[edV (p.1 : Nat) (p.2 : Nat), .nilIface]
  | .none => .tuple #[edV 0 0, errV 3]

def ReadI (L : List Nat) (N i : Int) : Prop := 0 ≤ N ∧ 0 ≤ i ∧ i ≤ 8 ∧ N < 256 ^ i.toNat ∧ N = (((L.take i.toNat).foldl (fun n c => 256 * n + c) 0 : Nat) : Int)
theorem ReadI.bound {L : List Nat} {N i : Int} (h : ReadI L N i) (hi : i < 8) : 0 ≤ N ∧ N < 72057594037927936 := by
  refine ⟨h.1, Int.lt_of_lt_of_le h.2.2.2.1 ?_⟩
  have : (256 : Nat) ^ i.toNat ≤ 256 ^ 7 := Nat.pow_le_pow_right (by decide) (by have := h.2.1; omega)
  have e : ((256 ^ i.toNat : Nat) : Int) = 256 ^ i.toNat := by rw [Int.natCast_pow]; rfl
  omega
theorem ReadI.step {L : List Nat} {N i v : Int} (H : B8 8 L) (h : ReadI L N i) (hi : i < 8) (hv : v = ((L.getD i.toNat 0 : Nat) : Int)) (_ : 0 ≤ v) (v1 : v ≤ 255) : ReadI L (256 * N + v) (i + 1) := by
  obtain ⟨h0, h1, h2, h3, h4⟩ := h
  have e : (i + 1).toNat = i.toNat + 1 := by omega
  have hl : i.toNat < L.length := by rw [H.len]; omega
  refine ⟨by omega, by omega, by omega, ?_, ?_⟩
  · rw [e, Int.pow_succ]; omega
  · rw [e, List.take_add_one, List.getElem?_eq_getElem hl, List.foldl_append, h4, hv, List.getD_eq_getElem?_getD, List.getElem?_eq_getElem hl]
    simp only [Option.toList, List.foldl, Option.getD_some]
    omega
theorem ReadI.done {L : List Nat} {N : Int} (H : B8 8 L) (h : ReadI L N 8) : N = ((Obol.num8 L : Nat) : Int) := by
  have := h.2.2.2.2
  rw [show (8 : Int).toNat = 8 from rfl, List.take_of_length_le (by rw [H.len]; decide)] at this
  exact this

set_option maxHeartbeats 1000000 in
theorem eRead8 (b o cap : Nat) (L : List Nat) (H0 : B8 8 L) (w : World) (hc0 : BL w b o L) :
    Calls Try.prog 7 #[.slice (some ⟨b, o, none⟩) 8 cap] w fun e w' => e = .returned (readV (Obol.num8 L)) ∧ Below w.heap.size w w' := by
  have H := Lib.hid H0
  have hb := hc0.lt (by rw [H0.len]; decide)
  have C := Lib.hid hc0
  clear hc0 H0
  go_enter Try.func7, Try.ntmps7
  go_wp2_with fail
  go_loopw [4, 18] (fun q1 q2 wr => ∃ N i : Int, q1 = .int .u64 N ∧ q2 = .int .i64 i ∧ Hid (ReadI L N i) ∧ ∃ n, wr = (w.alloc (.cells #[.int .u64 0, .int .u64 0] 26)).drewN n) (fun _ q2 _ => (8 - intOf q2).toNat)
  case atStart => exact ⟨0, 0, rfl, rfl, Lib.hid ⟨by omega, by omega, by omega, by decide, rfl⟩, 0, rfl⟩
  case round =>
    obtain ⟨N, i, rfl, rfl, HI, n, rfl⟩ := hrel
    have i0 := HI.out.2.1
    have i1 := HI.out.2.2.1
    by_cases hi : i < 8
    · obtain ⟨n0, n1⟩ := HI.out.bound hi
      have C1 : BL ((w.alloc (.cells #[.int .u64 0, .int .u64 0] 26)).drewN n) b o L := C.out.below (B := w.heap.size) (bDrewN (bAlloc (Below.refl _ _) _) n) hb
      obtain ⟨v, hv, he, v0, v1⟩ := C1.at H.out i0 hi
      have hor := or_byte n0 n1 v0 v1
      have HN := Lib.hid (HI.out.step H.out hi he v0 v1)
      clear he C1
      go_wp2_with fail
      go_roundw
      case rel => exact ⟨_, _, rfl, rfl, HN, _, rfl⟩
      case measure => simp [intOf]; omega
    · obtain rfl : i = 8 := by omega
      have hN := HI.out.done H.out
      have n0 : 0 ≤ N := by omega
      have n1 : N ≤ 18446744073709551615 := by have := Obol.num8_lt H.out.all H.out.len; omega
      have hand := and_63 n0 n1
      obtain ⟨y, hy⟩ : ∃ y : Int, N % 9223372036854775808 = y := ⟨_, rfl⟩
      obtain ⟨od, ho⟩ : ∃ od : Int, N / 9223372036854775808 = od := ⟨_, rfl⟩
      have ey : Obol.num8 L % 9223372036854775808 = y.toNat := by omega
      have eo : Obol.num8 L / 9223372036854775808 = od.toNat := by omega
      rw [hy] at hand
      have y0 : 0 ≤ y := by omega
      have o0 : 0 ≤ od := by omega
      have o1 : od ≤ 1 := by omega
      have Y : Hid (Obol.num8 L % 9223372036854775808 = y.toNat ∧ Obol.num8 L / 9223372036854775808 = od.toNat) := Lib.hid ⟨ey, eo⟩
      clear ey eo hN HI C H n1 hi i0 i1 hy
      by_cases hr : y < 288230376287764481
      · have hrR : y.toNat < Obol.R := by rw [Obol.R_def]; omega
        have hS := fun w => eSide y y0 w
        cases hs : Obol.sqB (sqY y.toNat)
        · have HF : Hid (readV (Obol.num8 L) = .tuple #[edV 0 0, errV 3]) := Lib.hid (by
            have : Obol.readN (Obol.num8 L) = Option.none := by unfold Obol.readN; rw [Y.out.1, if_neg (fun h => by have h2 := h.2; rw [show Obol.sqN y.toNat = sqY y.toNat from rfl, hs] at h2; cases h2)]
            unfold readV
            rw [this])
          rw [rootV_no hs] at hS
          replace hS := Lib.hid hS
          clear hs hrR Y
          go_wp2_with (go_at_call 20; refine (hS.out _).mono ?_; rintro e w' ⟨rfl, n', rfl⟩)
          refine bodyPost_ret (v := .tuple #[edV 0 0, errV 3]) (by simp [results, Try.results7, go_sem]) rfl ⟨congrArg Ending.returned HF.out.symm, ?_⟩
          repeat (first | exact Below.refl _ _ | assumption | apply bDrewN | apply bDrew | apply bAlloc | refine bSet ?_ (by omega) | refine bThen ?_ (by assumption) (by simp <;> omega))
        · have hok := Obol.rootN_ok hs
          obtain ⟨x, hx⟩ : ∃ x : Int, ((Obol.rootN (sqY y.toNat) : Nat) : Int) = x := ⟨_, rfl⟩
          have x0 : 0 ≤ x := by omega
          have x1 : x ≤ 18446744073709551615 := by have := hok.1; rw [Obol.R_def] at this; omega
          have ha := and_1 x0 x1
          have xe : Obol.rootN (sqY y.toNat) = x.toNat := by omega
          rw [rootV_yes hs, hx] at hS
          have er : Obol.readN (Obol.num8 L) = if x.toNat % 2 = od.toNat then .some (x.toNat, y.toNat) else Obol.okN (Obol.subR 0 x.toNat) y.toNat od.toNat := by
            unfold Obol.readN
            rw [Y.out.1, Y.out.2, show Obol.sqN y.toNat = sqY y.toNat from rfl, if_pos ⟨hrR, hs⟩, xe]
          have hm := fun w => RSub 0 x (by omega) x0 w
          rw [show (0 : Int).toNat = 0 from rfl] at hm
          replace hS := Lib.hid hS
          by_cases hp : x % 2 = od
          · have HF : Hid (readV (Obol.num8 L) = .tuple #[edV x y, .nilIface]) := Lib.hid (by
              unfold readV
              rw [er, if_pos (by omega)]
              show Value.tuple #[edV ((x.toNat : Nat) : Int) ((y.toNat : Nat) : Int), Value.nilIface] = _
              rw [Int.toNat_of_nonneg x0, Int.toNat_of_nonneg y0])
            rw [hp] at ha
            clear hs hrR Y hok hx xe er hm x1 hp
            go_wp2_with (go_at_call 20; refine (hS.out _).mono ?_; rintro e w' ⟨rfl, n', rfl⟩)
            refine bodyPost_ret (v := .tuple #[edV x y, .nilIface]) (by simp [results, Try.results7, go_sem]) rfl ⟨congrArg Ending.returned HF.out.symm, ?_⟩
            repeat (first | exact Below.refl _ _ | assumption | apply bDrewN | apply bDrew | apply bAlloc | refine bSet ?_ (by omega) | refine bThen ?_ (by assumption) (by simp <;> omega))
          · obtain ⟨z, hz⟩ : ∃ z : Int, ((Obol.subR 0 x.toNat : Nat) : Int) = z := ⟨_, rfl⟩
            have ez : Obol.subR 0 x.toNat = z.toNat := by omega
            have z0 : 0 ≤ z := by omega
            have zlt : z ≤ 18446744073709551615 := by
              have : Obol.subR 0 x.toNat < Obol.R := by rw [Obol.subR_eq]; exact Nat.mod_lt _ Obol.R_pos
              rw [Obol.R_def] at this
              omega
            have hb1 := and_1 z0 zlt
            rw [hz] at hm
            replace hm := Lib.hid hm
            have hne : (x % 2 != od) = true := bne_iff_ne.2 hp
            have er2 : Obol.readN (Obol.num8 L) = Obol.okN z.toNat y.toNat od.toNat := by rw [er, if_neg (by omega), ez]
            by_cases hp2 : z % 2 = od
            · have HF : Hid (readV (Obol.num8 L) = .tuple #[edV z y, .nilIface]) := Lib.hid (by
                unfold readV
                rw [er2, Obol.okN, if_pos (by omega)]
                show Value.tuple #[edV ((z.toNat : Nat) : Int) ((y.toNat : Nat) : Int), Value.nilIface] = _
                rw [Int.toNat_of_nonneg z0, Int.toNat_of_nonneg y0])
              rw [hp2] at hb1
              clear hs hrR Y hok hx xe er er2 x1 hz ez zlt hp2
              replace hp := Lib.hid hp
              go_wp2_with (first | (go_at_call 20; refine (hS.out _).mono ?_; rintro e w' ⟨rfl, n', rfl⟩) | (go_at_call 21; refine (hm.out _).mono ?_; rintro e w' ⟨rfl, n2, rfl⟩))
              refine bodyPost_ret (v := .tuple #[edV z y, .nilIface]) (by simp [results, Try.results7, go_sem]) rfl ⟨congrArg Ending.returned HF.out.symm, ?_⟩
              repeat (first | exact Below.refl _ _ | assumption | apply bDrewN | apply bDrew | apply bAlloc | refine bSet ?_ (by omega) | refine bThen ?_ (by assumption) (by simp <;> omega))
            · have HF : Hid (readV (Obol.num8 L) = .tuple #[edV 0 0, errV 3]) := Lib.hid (by
                unfold readV
                rw [er2, Obol.okN, if_neg (by omega)])
              have hne2 : (z % 2 != od) = true := bne_iff_ne.2 hp2
              clear hs hrR Y hok hx xe er er2 x1 hz ez zlt
              replace hp := Lib.hid hp
              replace hp2 := Lib.hid hp2
              go_wp2_with (first | (go_at_call 20; refine (hS.out _).mono ?_; rintro e w' ⟨rfl, n', rfl⟩) | (go_at_call 21; refine (hm.out _).mono ?_; rintro e w' ⟨rfl, n2, rfl⟩))
              refine bodyPost_ret (v := .tuple #[edV 0 0, errV 3]) (by simp [results, Try.results7, go_sem]) rfl ⟨congrArg Ending.returned HF.out.symm, ?_⟩
              repeat (first | exact Below.refl _ _ | assumption | apply bDrewN | apply bDrew | apply bAlloc | refine bSet ?_ (by omega) | refine bThen ?_ (by assumption) (by simp <;> omega))
      · have HF : Hid (readV (Obol.num8 L) = .tuple #[edV 0 0, errV 3]) := Lib.hid (by
          have : Obol.readN (Obol.num8 L) = Option.none := by unfold Obol.readN; rw [Y.out.1, if_neg (fun h => by have h2 := h.1; rw [Obol.R_def] at h2; omega)]
          unfold readV
          rw [this])
        clear Y
        go_wp2_with fail
        refine bodyPost_ret (v := .tuple #[edV 0 0, errV 3]) (by simp [results, Try.results7, go_sem]) rfl ⟨congrArg Ending.returned HF.out.symm, ?_⟩
        repeat (first | exact Below.refl _ _ | assumption | apply bDrewN | apply bDrew | apply bAlloc | refine bSet ?_ (by omega) | refine bThen ?_ (by assumption) (by simp <;> omega))

/-- Not eight bytes. -/
theorem eReadNo (ao : Option Addr) (len cap : Nat) (h : len ≠ 8) (_ : len ≤ 9223372036854775807) (w : World) :
    Calls Try.prog 7 #[.slice ao len cap] w fun e w' => e = .returned (.tuple #[edV 0 0, errV 3]) ∧ Below w.heap.size w w' := by
  have hn : ((len : Int) != 8) = true := bne_iff_ne.2 (by omega)
  replace h := Lib.hid h
  go_enter Try.func7, Try.ntmps7
  go_wp2_with fail
  refine bodyPost_ret (v := .tuple #[edV 0 0, errV 3]) (by simp [results, Try.results7, go_sem]) rfl ⟨rfl, ?_⟩
  repeat (first | exact Below.refl _ _ | assumption | apply bDrewN | apply bDrew | apply bAlloc | refine bSet ?_ (by omega) | refine bThen ?_ (by assumption) (by simp <;> omega))

end Go.Proofs.Ytcdfpceagobicaa
