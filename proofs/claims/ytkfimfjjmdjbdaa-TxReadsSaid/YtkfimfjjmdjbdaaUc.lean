import Derived.Test.YtkfimfjjmdjbdaaUb
import Derived.Test.YtkfimfjjmdjbdaaUa
import Derived.Deep.RegionWith
import Derived.BigRegion
import Derived.Deep.MidRow
import Derived.StillTailTactics
import Derived.Deep.RegionHeld3
import Derived.Deep.CutBlock
import Derived.Deep.DeepCutAuto
import Derived.Lib.BufferWrite
import Derived.Laws.CopyOwn
import Derived.Laws.BytesArg
import Derived.Laws.AppendOwnNone
set_option linter.unusedVariables false
set_option linter.unusedSimpArgs false
set_option linter.unusedSectionVars false
/- Plain law: the points of numbers: a number's lower 63 bits are Y, its highest bit tells X from R - X. No program in sight. -/
namespace Obol

/-- What X times X is, at a Y. -/
noncomputable def sqN (y : Nat) : Nat := overR (subR (mulR y y) 1) (addR 1 (mulR 439 (mulR y y)))
def codeN (p : Nat × Nat) : Nat := p.2 + p.1 % 2 * 9223372036854775808
def okN (x y odd : Nat) : Option (Nat × Nat) := if x % 2 = odd then .some (x, y) else Option.none
noncomputable def readN (n : Nat) : Option (Nat × Nat) :=
  if n % 9223372036854775808 < R ∧ sqB (sqN (n % 9223372036854775808)) = true then
    if rootN (sqN (n % 9223372036854775808)) % 2 = n / 9223372036854775808 then Option.some (rootN (sqN (n % 9223372036854775808)), n % 9223372036854775808)
    else okN (subR 0 (rootN (sqN (n % 9223372036854775808)))) (n % 9223372036854775808) (n / 9223372036854775808)
  else Option.none

theorem down_ne (Y : Fr) : 1 + K.d * (Y * Y) ≠ 0 := by
  intro h
  have h1 : K.i * K.i = -1 := K.i2
  have e : (K.d * Y) * (K.d * Y) = -K.d * (1 * 1) := by grind
  have := K.nonsq e
  exact K.ne this

theorem sqN_val (Y : Fr) : sqN Y.val = ((Y * Y - 1) * K.inv (1 + K.d * (Y * Y))).val := by
  unfold sqN
  rw [mulR_val, ← d_val, mulR_val, ← one_val, subR_val, addR_val, overR_val]

theorem on_side (X Y : Fr) : X * X = (Y * Y - 1) * K.inv (1 + K.d * (Y * Y)) ↔ K.On X Y := by
  have hn := down_ne Y
  have hi := K.inv_mul _ hn
  unfold Ground.On
  constructor
  · intro h
    have : X * X * (1 + K.d * (Y * Y)) = Y * Y - 1 := by
      rw [h]
      generalize K.inv (1 + K.d * (Y * Y)) = v at *
      have : (Y * Y - 1) * v * (1 + K.d * (Y * Y)) = (Y * Y - 1) * ((1 + K.d * (Y * Y)) * v) := by grind
      rw [this, hi]
      grind
    grind
  · intro h
    apply K.cancel hn
    generalize K.inv (1 + K.d * (Y * Y)) = v at *
    have : (1 + K.d * (Y * Y)) * ((Y * Y - 1) * v) = ((1 + K.d * (Y * Y)) * v) * (Y * Y - 1) := by grind
    rw [this, hi]
    grind

theorem is_sq {x y : Nat} (hx : x < R) (hy : y < R) : isN (x, y) = true ↔ x * x % R = sqN y % R := by
  have h := on_side ⟨x, hx⟩ ⟨y, hy⟩
  have h2 := on_iff ⟨x, hx⟩ ⟨y, hy⟩
  rw [← h2, ← h]
  have hv := sqN_val ⟨y, hy⟩
  show _ ↔ x * x % R = sqN (⟨y, hy⟩ : Fr).val % R
  rw [hv, lt_mod (Fin.isLt _)]
  constructor
  · intro e
    have := congrArg Fin.val e
    exact this
  · intro e
    exact Fin.ext e

theorem sub0 {x : Nat} (h : 2 * x ≤ R) : subR 0 x = if x = 0 then 0 else R - x := by
  rw [subR_eq, subQ]
  have hR := R_pos
  have := R_odd
  split
  · rename_i h0
    subst h0
    simp
  · rw [Nat.zero_mod, lt_mod (by omega : x < R), Nat.zero_add, lt_mod (by omega)]

theorem root_nil {a : Nat} (h : a % R = 0) : rootN a = 0 := by
  have hs : sqB a = true := by unfold sqB; rw [h]; rfl
  exact (rootN_is hs (x := 0) (by omega) (by rw [h]; rfl)).symm

theorem sqN_lt (y : Nat) : sqN y < R := by unfold sqN overR; exact mulR_lt _ _

/-- Whether there is a point of a number. -/
noncomputable def hasN (n : Nat) : Bool := decide (n % 9223372036854775808 < R) && (sqB (sqN (n % 9223372036854775808)) && (sqN (n % 9223372036854775808) != 0 || !decide (n ≥ 9223372036854775808)))

theorem neg_sq {x : Nat} (h : x ≤ R) : (R - x) * (R - x) % R = x * x % R := by
  have : (R - x) * (R - x) + 2 * x * R = x * x + R * R := by
    obtain ⟨z, hz⟩ : ∃ z, R = x + z := ⟨R - x, by omega⟩
    rw [hz]
    have : x + z - x = z := by omega
    rw [this]
    grind
  have h1 := congrArg (· % R) this
  simp only [Nat.add_mul_mod_self_right] at h1
  exact h1

theorem read_is (n : Nat) (h64 : n < 18446744073709551616) : (readN n).isSome = hasN n ∧ ∀ p, readN n = some p → isN p = true ∧ p.1 < R ∧ p.2 < R ∧ p.2 = n % 9223372036854775808 ∧ p.1 % 2 = n / 9223372036854775808 := by
  have hoddR := R_odd
  by_cases hy : n % 9223372036854775808 < R
  · cases hs : sqB (sqN (n % 9223372036854775808))
    · have e : readN n = Option.none := by unfold readN; rw [hs]; simp
      have e2 : hasN n = false := by unfold hasN; rw [hs]; simp
      rw [e, e2]
      exact ⟨rfl, fun p h => by cases h⟩
    · obtain ⟨r1, r2⟩ := rootN_ok hs
      obtain ⟨x, hx⟩ : ∃ x, x = rootN (sqN (n % 9223372036854775808)) := ⟨_, rfl⟩
      have hlt := sqN_lt (n % 9223372036854775808)
      have e : readN n = if x % 2 = n / 9223372036854775808 then some (x, n % 9223372036854775808) else okN (subR 0 x) (n % 9223372036854775808) (n / 9223372036854775808) := by
        unfold readN
        rw [if_pos ⟨hy, hs⟩, hx]
      have e2 : hasN n = (sqN (n % 9223372036854775808) != 0 || !decide (n ≥ 9223372036854775808)) := by unfold hasN; rw [hs, decide_eq_true hy]; simp
      rw [← hx] at r1 r2
      have hz : sqN (n % 9223372036854775808) = 0 ↔ x = 0 := by
        constructor
        · intro h
          rw [hx]
          exact root_nil (by rw [h]; rfl)
        · intro h
          rw [h, lt_mod hlt] at r2
          simpa using r2.symm
      have hxR : x < R := by omega
      rw [e, e2, sub0 r1]
      by_cases hx0 : x = 0
      · have hq := hz.2 hx0
        rw [hq, hx0]
        unfold okN
        by_cases ho : n ≥ 9223372036854775808
        · have : n / 9223372036854775808 = 1 := by omega
          simp [this, ho]
        · have : n / 9223372036854775808 = 0 := by omega
          simp [this, ho]
          refine ⟨(is_sq (by omega) (by omega)).2 (by rw [hq]), by omega, hy⟩
      · have hq : sqN (n % 9223372036854775808) ≠ 0 := fun h => hx0 (hz.1 h)
        have hqb : (sqN (n % 9223372036854775808) != 0) = true := bne_iff_ne.2 hq
        rw [hqb, Bool.true_or, if_neg hx0]
        by_cases hp : x % 2 = n / 9223372036854775808
        · rw [if_pos hp]
          refine ⟨rfl, fun p h => ?_⟩
          cases h
          exact ⟨(is_sq hxR hy).2 r2, hxR, hy, rfl, hp⟩
        · rw [if_neg hp]
          unfold okN
          rw [if_pos (by omega)]
          refine ⟨rfl, fun p h => ?_⟩
          cases h
          refine ⟨(is_sq (by omega) hy).2 ?_, by omega, hy, rfl, by omega⟩
          rw [neg_sq (by omega)]
          exact r2
  · have e : readN n = Option.none := by unfold readN; rw [if_neg (fun h => hy h.1)]
    have e2 : hasN n = false := by unfold hasN; rw [decide_eq_false hy]; rfl
    rw [e, e2]
    exact ⟨rfl, fun p h => by cases h⟩

theorem read_code {p : Nat × Nat} (h : isN p = true) : readN (codeN p) = some p := by
  obtain ⟨x, y⟩ := p
  have h' := h
  unfold isN at h'
  simp only [Bool.and_eq_true, decide_eq_true_eq] at h'
  have hx : x < R := h'.1.1
  have hy : y < R := h'.1.2
  have hRR : R < 9223372036854775808 := by decide +kernel
  have hoddR := R_odd
  have e1 : codeN (x, y) % 9223372036854775808 = y := by unfold codeN; simp only; omega
  have e2 : codeN (x, y) / 9223372036854775808 = x % 2 := by unfold codeN; simp only; omega
  have hq := (is_sq hx hy).1 h
  have hs : sqB (sqN y) = true := (sqB_iff _).2 ⟨x, hx, hq⟩
  obtain ⟨r1, r2⟩ := rootN_ok hs
  have hr := two_roots (x := rootN (sqN y)) (y := x) (by omega) hx (by rw [r2, hq])
  unfold readN
  rw [e1, e2, if_pos ⟨hy, hs⟩]
  rcases hr with hr | hr
  · rw [hr, if_pos rfl]
  · rw [sub0 r1]
    by_cases h0 : rootN (sqN y) = 0
    · omega
    · rw [if_neg (by omega), if_neg h0]
      unfold okN
      have : R - rootN (sqN y) = x := by omega
      rw [this, if_pos rfl]

/-! the bytes -/
def be8 (n : Nat) : List Nat := [n / 72057594037927936 % 256, n / 281474976710656 % 256, n / 1099511627776 % 256, n / 4294967296 % 256, n / 16777216 % 256, n / 65536 % 256, n / 256 % 256, n % 256]
def num8 : List Nat → Nat := fun l => l.foldl (fun n c => 256 * n + c) 0
theorem num_be (n : Nat) (h : n < 18446744073709551616) : num8 (be8 n) = n := by
  simp only [num8, be8, List.foldl]
  omega
theorem be_num {a b c d e f g h : Nat} (ha : a < 256) (hb : b < 256) (hc : c < 256) (hd : d < 256) (he : e < 256) (hf : f < 256) (hg : g < 256) (hh : h < 256) : be8 (num8 [a, b, c, d, e, f, g, h]) = [a, b, c, d, e, f, g, h] := by
  simp only [num8, be8, List.foldl]
  simp only [List.cons.injEq, and_true]
  omega
theorem num_lt : ∀ (l : List Nat) (n : Nat) (_ : ∀ x ∈ l, x < 256), l.foldl (fun n c => 256 * n + c) n < (n + 1) * 256 ^ l.length
  | [], n, _ => by simp
  | c :: l, n, h => by
    have h1 := num_lt l (256 * n + c) (fun x hx => h x (List.mem_cons_of_mem _ hx))
    have h2 := h c (List.mem_cons_self ..)
    rw [List.foldl_cons, List.length_cons, Nat.pow_succ]
    refine Nat.lt_of_lt_of_le h1 ?_
    rw [Nat.mul_comm (256 ^ l.length) 256, ← Nat.mul_assoc]
    exact Nat.mul_le_mul_right _ (by omega)
theorem num8_lt {l : List Nat} (h : ∀ x ∈ l, x < 256) (hl : l.length = 8) : num8 l < 18446744073709551616 := by
  have := num_lt l 0 h
  rw [hl] at this
  simpa [num8] using this
theorem be_num8 {l : List Nat} (h : ∀ x ∈ l, x < 256) (hl : l.length = 8) : be8 (num8 l) = l := by
  match l, hl with
  | [a, b, c, d, e, f, g, i], _ =>
    simp only [List.mem_cons, List.not_mem_nil, or_false, forall_eq_or_imp, forall_eq] at h
    exact be_num h.1 h.2.1 h.2.2.1 h.2.2.2.1 h.2.2.2.2.1 h.2.2.2.2.2.1 h.2.2.2.2.2.2.1 h.2.2.2.2.2.2.2
theorem be_lt (n : Nat) : ∀ x ∈ be8 n, x < 256 := by
  intro x hx
  simp only [be8, List.mem_cons, List.not_mem_nil, or_false] at hx
  omega

end Obol
/- Walks: package edwards: bytes to points. -/
namespace Go.Proofs.Ytkfimfjjmdjbdaa
open Go.RowKit

/-- What Read tells of a number. -/
noncomputable def readV (n : Nat) : Value := match Obol.readN n with
  | .some p => .tuple #[edV (p.1 : Nat) (p.2 : Nat), .nilIface]
  | .none => .tuple #[edV 0 0, errV 3]

def ReadI (L : List Nat) (N i : Int) : Prop := 0 ≤ N ∧ 0 ≤ i ∧ i ≤ 8 ∧ N < 256 ^ i.toNat ∧ N = (((L.take i.toNat).foldl (fun n c => 256 * n + c) 0 : Nat) : Int)
theorem ReadI.bound {L : List Nat} {N i : Int} (h : ReadI L N i) (hi : i < 8) : 0 ≤ N ∧ N < 72057594037927936 := by
  refine ⟨h.1, Int.lt_of_lt_of_le h.2.2.2.1 ?_⟩
  have : (256 : Nat) ^ i.toNat ≤ 256 ^ 7 := Nat.pow_le_pow_right (by decide) (by have := h.2.1; omega)
  have e : ((256 ^ i.toNat : Nat) : Int) = 256 ^ i.toNat := by rw [Int.natCast_pow]; rfl
  omega
theorem ReadI.step {L : List Nat} {N i v : Int} (H : B8 8 L) (h : ReadI L N i) (hi : i < 8) (hv : v = ((L.getD i.toNat 0 : Nat) : Int)) (_ : 0 ≤ v) (v1 : v ≤ 255) : ReadI L (256 * N + v) (i + 1) := by
  obtain ⟨h0, h1, h2, h3, h4⟩ := h
  have e : (i + 1).toNat = i.toNat + 1 := by omega
  have hl : i.toNat < L.length := by rw [H.len]; omega
  refine ⟨by omega, by omega, by omega, ?_, ?_⟩
  · rw [e, Int.pow_succ]; omega
  · rw [e, List.take_add_one, List.getElem?_eq_getElem hl, List.foldl_append, h4, hv, List.getD_eq_getElem?_getD, List.getElem?_eq_getElem hl]
    simp only [Option.toList, List.foldl, Option.getD_some]
    omega
theorem ReadI.done {L : List Nat} {N : Int} (H : B8 8 L) (h : ReadI L N 8) : N = ((Obol.num8 L : Nat) : Int) := by
  have := h.2.2.2.2
  rw [show (8 : Int).toNat = 8 from rfl, List.take_of_length_le (by rw [H.len]; decide)] at this
  exact this

set_option maxHeartbeats 1000000 in
theorem eRead8 (b o cap : Nat) (L : List Nat) (H0 : B8 8 L) (w : World) (hc0 : BL w b o L) :
    Calls Try.prog 61 #[.slice (some ⟨b, o, none⟩) 8 cap] w fun e w' => e = .returned (readV (Obol.num8 L)) ∧ Below w.heap.size w w' := by
  have H := Lib.hid H0
  have hb := hc0.lt (by rw [H0.len]; decide)
  have C := Lib.hid hc0
  clear hc0 H0
  go_enter Try.func61, Try.ntmps61
  go_wp2_with fail
  go_loopw [4, 18] (fun q1 q2 wr => ∃ N i : Int, q1 = .int .u64 N ∧ q2 = .int .i64 i ∧ Hid (ReadI L N i) ∧ ∃ n, wr = (w.alloc (.cells #[.int .u64 0, .int .u64 0] 24)).drewN n) (fun _ q2 _ => (8 - intOf q2).toNat)
  case atStart => exact ⟨0, 0, rfl, rfl, Lib.hid ⟨by omega, by omega, by omega, by decide, rfl⟩, 0, rfl⟩
  case round =>
    obtain ⟨N, i, rfl, rfl, HI, n, rfl⟩ := hrel
    have i0 := HI.out.2.1
    have i1 := HI.out.2.2.1
    by_cases hi : i < 8
    · obtain ⟨n0, n1⟩ := HI.out.bound hi
      have C1 : BL ((w.alloc (.cells #[.int .u64 0, .int .u64 0] 24)).drewN n) b o L := C.out.below (B := w.heap.size) (bDrewN (bAlloc (Below.refl _ _) _) n) hb
      obtain ⟨v, hv, he, v0, v1⟩ := C1.at H.out i0 hi
      have hor := or_byte n0 n1 v0 v1
      have HN := Lib.hid (HI.out.step H.out hi he v0 v1)
      clear he C1
      go_wp2_with fail
      go_roundw
      case rel => exact ⟨_, _, rfl, rfl, HN, _, rfl⟩
      case measure => simp [intOf]; omega
    · obtain rfl : i = 8 := by omega
      have hN := HI.out.done H.out
      have n0 : 0 ≤ N := by omega
      have n1 : N ≤ 18446744073709551615 := by have := Obol.num8_lt H.out.all H.out.len; omega
      have hand := and_63 n0 n1
      obtain ⟨y, hy⟩ : ∃ y : Int, N % 9223372036854775808 = y := ⟨_, rfl⟩
      obtain ⟨od, ho⟩ : ∃ od : Int, N / 9223372036854775808 = od := ⟨_, rfl⟩
      have ey : Obol.num8 L % 9223372036854775808 = y.toNat := by omega
      have eo : Obol.num8 L / 9223372036854775808 = od.toNat := by omega
      rw [hy] at hand
      have y0 : 0 ≤ y := by omega
      have o0 : 0 ≤ od := by omega
      have o1 : od ≤ 1 := by omega
      have Y : Hid (Obol.num8 L % 9223372036854775808 = y.toNat ∧ Obol.num8 L / 9223372036854775808 = od.toNat) := Lib.hid ⟨ey, eo⟩
      clear ey eo hN HI C H n1 hi i0 i1 hy
      by_cases hr : y < 288230376287764481
      · have hrR : y.toNat < Obol.R := by rw [Obol.R_def]; omega
        have hS := fun w => eSide y y0 w
        cases hs : Obol.sqB (sqY y.toNat)
        · have HF : Hid (readV (Obol.num8 L) = .tuple #[edV 0 0, errV 3]) := Lib.hid (by
            have : Obol.readN (Obol.num8 L) = Option.none := by unfold Obol.readN; rw [Y.out.1, if_neg (fun h => by have h2 := h.2; rw [show Obol.sqN y.toNat = sqY y.toNat from rfl, hs] at h2; cases h2)]
            unfold readV
            rw [this])
          rw [rootV_no hs] at hS
          replace hS := Lib.hid hS
          clear hs hrR Y
          go_wp2_with (go_at_call 85; refine (hS.out _).mono ?_; rintro e w' ⟨rfl, n', rfl⟩)
          refine bodyPost_ret (v := .tuple #[edV 0 0, errV 3]) (by simp [results, Try.results61, go_sem]) rfl ⟨congrArg Ending.returned HF.out.symm, ?_⟩
          repeat (first | exact Below.refl _ _ | assumption | apply bDrewN | apply bDrew | apply bAlloc | refine bSet ?_ (by omega) | refine bThen ?_ (by assumption) (by simp <;> omega))
        · have hok := Obol.rootN_ok hs
          obtain ⟨x, hx⟩ : ∃ x : Int, ((Obol.rootN (sqY y.toNat) : Nat) : Int) = x := ⟨_, rfl⟩
          have x0 : 0 ≤ x := by omega
          have x1 : x ≤ 18446744073709551615 := by have := hok.1; rw [Obol.R_def] at this; omega
          have ha := and_1 x0 x1
          have xe : Obol.rootN (sqY y.toNat) = x.toNat := by omega
          rw [rootV_yes hs, hx] at hS
          have er : Obol.readN (Obol.num8 L) = if x.toNat % 2 = od.toNat then .some (x.toNat, y.toNat) else Obol.okN (Obol.subR 0 x.toNat) y.toNat od.toNat := by
            unfold Obol.readN
            rw [Y.out.1, Y.out.2, show Obol.sqN y.toNat = sqY y.toNat from rfl, if_pos ⟨hrR, hs⟩, xe]
          have hm := fun w => RSub 0 x (by omega) x0 w
          rw [show (0 : Int).toNat = 0 from rfl] at hm
          replace hS := Lib.hid hS
          by_cases hp : x % 2 = od
          · have HF : Hid (readV (Obol.num8 L) = .tuple #[edV x y, .nilIface]) := Lib.hid (by
              unfold readV
              rw [er, if_pos (by omega)]
              show Value.tuple #[edV ((x.toNat : Nat) : Int) ((y.toNat : Nat) : Int), Value.nilIface] = _
              rw [Int.toNat_of_nonneg x0, Int.toNat_of_nonneg y0])
            rw [hp] at ha
            clear hs hrR Y hok hx xe er hm x1 hp
            go_wp2_with (go_at_call 85; refine (hS.out _).mono ?_; rintro e w' ⟨rfl, n', rfl⟩)
            refine bodyPost_ret (v := .tuple #[edV x y, .nilIface]) (by simp [results, Try.results61, go_sem]) rfl ⟨congrArg Ending.returned HF.out.symm, ?_⟩
            repeat (first | exact Below.refl _ _ | assumption | apply bDrewN | apply bDrew | apply bAlloc | refine bSet ?_ (by omega) | refine bThen ?_ (by assumption) (by simp <;> omega))
          · obtain ⟨z, hz⟩ : ∃ z : Int, ((Obol.subR 0 x.toNat : Nat) : Int) = z := ⟨_, rfl⟩
            have ez : Obol.subR 0 x.toNat = z.toNat := by omega
            have z0 : 0 ≤ z := by omega
            have zlt : z ≤ 18446744073709551615 := by
              have : Obol.subR 0 x.toNat < Obol.R := by rw [Obol.subR_eq]; exact Nat.mod_lt _ Obol.R_pos
              rw [Obol.R_def] at this
              omega
            have hb1 := and_1 z0 zlt
            rw [hz] at hm
            replace hm := Lib.hid hm
            have hne : (x % 2 != od) = true := bne_iff_ne.2 hp
            have er2 : Obol.readN (Obol.num8 L) = Obol.okN z.toNat y.toNat od.toNat := by rw [er, if_neg (by omega), ez]
            by_cases hp2 : z % 2 = od
            · have HF : Hid (readV (Obol.num8 L) = .tuple #[edV z y, .nilIface]) := Lib.hid (by
                unfold readV
                rw [er2, Obol.okN, if_pos (by omega)]
                show Value.tuple #[edV ((z.toNat : Nat) : Int) ((y.toNat : Nat) : Int), Value.nilIface] = _
                rw [Int.toNat_of_nonneg z0, Int.toNat_of_nonneg y0])
              rw [hp2] at hb1
              clear hs hrR Y hok hx xe er er2 x1 hz ez zlt hp2
              replace hp := Lib.hid hp
              go_wp2_with (first | (go_at_call 85; refine (hS.out _).mono ?_; rintro e w' ⟨rfl, n', rfl⟩) | (go_at_call 67; refine (hm.out _).mono ?_; rintro e w' ⟨rfl, n2, rfl⟩))
              refine bodyPost_ret (v := .tuple #[edV z y, .nilIface]) (by simp [results, Try.results61, go_sem]) rfl ⟨congrArg Ending.returned HF.out.symm, ?_⟩
              repeat (first | exact Below.refl _ _ | assumption | apply bDrewN | apply bDrew | apply bAlloc | refine bSet ?_ (by omega) | refine bThen ?_ (by assumption) (by simp <;> omega))
            · have HF : Hid (readV (Obol.num8 L) = .tuple #[edV 0 0, errV 3]) := Lib.hid (by
                unfold readV
                rw [er2, Obol.okN, if_neg (by omega)])
              have hne2 : (z % 2 != od) = true := bne_iff_ne.2 hp2
              clear hs hrR Y hok hx xe er er2 x1 hz ez zlt
              replace hp := Lib.hid hp
              replace hp2 := Lib.hid hp2
              go_wp2_with (first | (go_at_call 85; refine (hS.out _).mono ?_; rintro e w' ⟨rfl, n', rfl⟩) | (go_at_call 67; refine (hm.out _).mono ?_; rintro e w' ⟨rfl, n2, rfl⟩))
              refine bodyPost_ret (v := .tuple #[edV 0 0, errV 3]) (by simp [results, Try.results61, go_sem]) rfl ⟨congrArg Ending.returned HF.out.symm, ?_⟩
              repeat (first | exact Below.refl _ _ | assumption | apply bDrewN | apply bDrew | apply bAlloc | refine bSet ?_ (by omega) | refine bThen ?_ (by assumption) (by simp <;> omega))
      · have HF : Hid (readV (Obol.num8 L) = .tuple #[edV 0 0, errV 3]) := Lib.hid (by
          have : Obol.readN (Obol.num8 L) = Option.none := by unfold Obol.readN; rw [Y.out.1, if_neg (fun h => by have h2 := h.1; rw [Obol.R_def] at h2; omega)]
          unfold readV
          rw [this])
        clear Y
        go_wp2_with fail
        refine bodyPost_ret (v := .tuple #[edV 0 0, errV 3]) (by simp [results, Try.results61, go_sem]) rfl ⟨congrArg Ending.returned HF.out.symm, ?_⟩
        repeat (first | exact Below.refl _ _ | assumption | apply bDrewN | apply bDrew | apply bAlloc | refine bSet ?_ (by omega) | refine bThen ?_ (by assumption) (by simp <;> omega))

/-- Not eight bytes. -/
theorem eReadNo (ao : Option Addr) (len cap : Nat) (h : len ≠ 8) (_ : len ≤ 9223372036854775807) (w : World) :
    Calls Try.prog 61 #[.slice ao len cap] w fun e w' => e = .returned (.tuple #[edV 0 0, errV 3]) ∧ Below w.heap.size w w' := by
  have hn : ((len : Int) != 8) = true := bne_iff_ne.2 (by omega)
  replace h := Lib.hid h
  go_enter Try.func61, Try.ntmps61
  go_wp2_with fail
  refine bodyPost_ret (v := .tuple #[edV 0 0, errV 3]) (by simp [results, Try.results61, go_sem]) rfl ⟨rfl, ?_⟩
  repeat (first | exact Below.refl _ _ | assumption | apply bDrewN | apply bDrew | apply bAlloc | refine bSet ?_ (by omega) | refine bThen ?_ (by assumption) (by simp <;> omega))

end Go.Proofs.Ytkfimfjjmdjbdaa
/- Bytes as cells; slices of the call's own that hold bytes. -/
namespace Go.Proofs.Ytkfimfjjmdjbdaa
open Go.RowKit

theorem info8 : (Try.prog.info? 5).map (fun i => (i.zero, i.size, i.bytes)) = some (some (.int .u8 0), 1, 1) := by kernel_rfl
/-- Bytes as cells. -/
def u8s (L : List Nat) : Array Value := (L.map fun (n : Nat) => Value.int .u8 (n : Int)).toArray
theorem u8s_size (L : List Nat) : (u8s L).size = L.length := by unfold u8s; simp
theorem u8s_get (L : List Nat) (i : Nat) (hi : i < L.length) : (u8s L)[i]? = some (.int .u8 ((L.getD i 0 : Nat) : Int)) := by
  unfold u8s
  rw [List.getElem?_toArray, List.getElem?_map, List.getElem?_eq_getElem hi, List.getD_eq_getElem?_getD, List.getElem?_eq_getElem hi]
  rfl
theorem Row.bl {w : World} {b : Nat} {L : List Nat} {t : TypeId} (h : Row w b (u8s L) t) : BL w b 0 L := fun i hi => by rw [Nat.zero_add]; exact h.cell i (u8s_get L i hi)
theorem rowSet8 {w : World} {k : Nat} {L : List Nat} {t : TypeId} (h : Row w k (u8s L) t) (i Z : Nat) {z : Int} (hz : z = (Z : Int)) : Row (w.setCell ⟨k, i, none⟩ (.int .u8 z)) k (u8s (L.set i Z)) t := by
  have e : (u8s L).setIfInBounds i (.int .u8 z) = u8s (L.set i Z) := by
    unfold u8s
    rw [List.setIfInBounds_toArray, List.map_set, hz]
  rw [← e]
  exact h.set i _

abbrev U8 (L : List Nat) : List Value := L.map fun (n : Nat) => Value.int .u8 (n : Int)
/-- A slice of the call's own: these bytes. -/
def OwnB (w : World) (base : Nat) (v : Value) (L : List Nat) : Prop := w.ownsRow base 5 1 v L.length (U8 L)
theorem OwnB.nil (w : World) (base : Nat) : OwnB w base (.slice none 0 0) [] := World.ownsRow_nil _ _ _ _
theorem OwnB.size {w : World} {base : Nat} {v : Value} {L : List Nat} (h : OwnB w base v L) (h0 : 0 < L.length) : ∃ g cap cur, v = .slice (some ⟨g, 0, none⟩) L.length cap ∧ base ≤ g ∧ Row w g cur 5 ∧ L.length ≤ cap ∧ cap ≤ maxLen ∧ cur.size = cap ∧ cur.toList.take L.length = U8 L := by
  rcases h.2 with ⟨rfl, h⟩ | ⟨g, cap, cur, h1, h2, h3, h4, h5, h6, h7⟩
  · omega
  · exact ⟨g, cap, cur, h1, h2, h3, h4, h5, by simpa using h6, by simpa using h7⟩
theorem OwnB.bl {w : World} {base : Nat} {L : List Nat} {g cap : Nat} (h : OwnB w base (.slice (some ⟨g, 0, none⟩) L.length cap) L) : BL w g 0 L := fun i hi => by
  rw [Nat.zero_add, World.ownsRow.cellAt h i (by omega)]
  simp only [List.getElem?_map, List.getElem?_eq_getElem hi, List.getD_eq_getElem?_getD]
  rfl
theorem OwnB.below {w w' : World} {base : Nat} {v : Value} {L : List Nat} (h : OwnB w base v L) (hb : Below w.heap.size w w') : OwnB w' base v L := by
  refine ⟨h.1, ?_⟩
  rcases h.2 with h | ⟨g, cap, cur, h1, h2, h3, h4⟩
  · exact .inl h
  · exact .inr ⟨g, cap, cur, h1, h2, (hb.block g (Array.getElem?_eq_some_iff.1 h3).1).trans h3, h4⟩

end Go.Proofs.Ytkfimfjjmdjbdaa
/- Walks: the references of layers 1, 2, 7: squares, numbers of bytes, bytes of numbers. -/
namespace Go.Proofs.Ytkfimfjjmdjbdaa
open Go.RowKit

theorem r7Square (y : Int) (hy : 0 ≤ y) (w : World) :
    Calls Try.prog 65 #[.int .u64 y] w fun e w' => e = .returned (.int .u64 ((sqY y.toNat : Nat) : Int)) ∧ ∃ n, w' = w.drewN n := by
  have hq : Hid (sqY y.toNat = Obol.overR (Obol.subR (Obol.mulR y.toNat y.toNat) 1) (Obol.addR 1 (Obol.mulR 439 (Obol.mulR y.toNat y.toNat)))) := Lib.hid rfl
  go_enter Try.func65, Try.ntmps65
  go_wp2_with (first | (go_at_call 79; refine (r7Mul _ _ (by omega) (by omega) _).mono ?_; rintro e w' ⟨rfl, n, rfl⟩) | (go_at_call 80; refine (r7Plus _ _ (by omega) (by omega) _).mono ?_; rintro e w' ⟨rfl, n, rfl⟩) | (go_at_call 89; refine (r7Less _ _ (by omega) (by omega) _).mono ?_; rintro e w' ⟨rfl, n, rfl⟩) | (go_at_call 88; refine (r7Over _ _ (by omega) (by omega) _).mono ?_; rintro e w' ⟨rfl, n, rfl⟩))
  all_goals
    go_ret
    exact ⟨ret_u64 (by rw [hq.out]), _, rfl⟩

theorem r1Square (a : Int) (ha : 0 ≤ a) (w : World) :
    Calls Try.prog 86 #[.int .u64 a] w fun e w' => e = .returned (.bool (Obol.sqB a.toNat)) ∧ w' = w := by
  have e1 : a.tmod 288230376287764481 = a % 288230376287764481 := Int.tmod_eq_emod_of_nonneg ha
  have hmod : a.toNat % Obol.R = (a % 288230376287764481).toNat := by rw [Obol.R_def]; omega
  have hP := fun w => r1Pow 288230376287764481 a 144115188143882240 (by omega) (by omega) ha (by omega) (by omega) w
  rw [litR, litH, Obol.powM] at hP
  by_cases h0 : a % 288230376287764481 = 0
  · have hR : Hid (Obol.sqB a.toNat = true) := Lib.hid (by unfold Obol.sqB; rw [hmod, h0]; rfl)
    clear hmod
    replace hP := Lib.hid hP
    go_enter Try.func86, Try.ntmps86
    go_wp2_with fail
    go_ret
    exact ⟨by rw [hR.out]; rfl, rfl⟩
  · have hz : (a % 288230376287764481 == 0) = false := beq_eq_false_iff_ne.2 h0
    have hR : Hid (Obol.sqB a.toNat = (((a.toNat ^ ((Obol.R - 1) / 2) % Obol.R : Nat) : Int) == 1)) := Lib.hid (by
      unfold Obol.sqB
      have : (a.toNat % Obol.R == 0) = false := by rw [beq_eq_false_iff_ne, hmod]; omega
      rw [this, Bool.false_or, Bool.eq_iff_iff, beq_iff_eq, beq_iff_eq]
      omega)
    clear hmod
    generalize ((a.toNat ^ ((Obol.R - 1) / 2) % Obol.R : Nat) : Int) = p at hP hR
    replace hP := Lib.hid hP
    replace h0 := Lib.hid h0
    go_enter Try.func86, Try.ntmps86
    go_wp2_with (go_at_call 87; refine (hP.out _).mono ?_; rintro e w' ⟨rfl, rfl⟩)
    go_ret
    exact ⟨by rw [hR.out]; rfl, rfl⟩

theorem r2Number (b o cap : Nat) (L : List Nat) (H0 : B8 8 L) (w : World) (hc0 : BL w b o L) :
    Calls Try.prog 63 #[.slice (some ⟨b, o, none⟩) 8 cap] w fun e w' => e = .returned (.int .u64 ((Obol.num8 L : Nat) : Int)) ∧ w' = w := by
  have H := Lib.hid H0
  have C := Lib.hid hc0
  clear hc0 H0
  go_enter Try.func63, Try.ntmps63
  go_wp2
  go_loopw [3, 4] (fun q1 q2 wr => ∃ N i : Int, q1 = .int .u64 N ∧ q2 = .int .i64 i ∧ Hid (ReadI L N i) ∧ wr = w) (fun _ q2 _ => (8 - intOf q2).toNat)
  case atStart => exact ⟨0, 0, rfl, rfl, Lib.hid ⟨by omega, by omega, by omega, by decide, rfl⟩, rfl⟩
  case round =>
    obtain ⟨N, i, rfl, rfl, HI, rfl⟩ := hrel
    have i0 := HI.out.2.1
    have i1 := HI.out.2.2.1
    by_cases hi : i < 8
    · obtain ⟨n0, n1⟩ := HI.out.bound hi
      obtain ⟨v, hv, he, v0, v1⟩ := C.out.at H.out i0 hi
      have HN := Lib.hid (HI.out.step H.out hi he v0 v1)
      clear he
      go_wp2
      exact ⟨⟨_, _, rfl, rfl, HN, trivial⟩, by simp [intOf]; omega⟩
    · obtain rfl : i = 8 := by omega
      have hN := Lib.hid (HI.out.done H.out)
      clear HI
      go_wp2
      go_ret
      exact ⟨ret_u64 hN.out, rfl⟩

/-- The bytes that are laid from the last on. -/
def B2I (n : Nat) (N i : Int) (L : List Nat) : Prop := 0 ≤ N ∧ N ≤ 18446744073709551615 ∧ -1 ≤ i ∧ i ≤ 7 ∧ N.toNat = n / 256 ^ (7 - i).toNat ∧ L.length = 8 ∧ ∀ j : Nat, i < (j : Int) → j < 8 → L.getD j 0 = (Obol.be8 n).getD j 0
theorem be8_get (n j : Nat) (h : j < 8) : (Obol.be8 n).getD j 0 = n / 256 ^ (7 - j) % 256 := by
  match j, h with
  | 0, _ => rfl
  | 1, _ => rfl
  | 2, _ => rfl
  | 3, _ => rfl
  | 4, _ => rfl
  | 5, _ => rfl
  | 6, _ => rfl
  | 7, _ => simp [Obol.be8]
theorem B2I.step {n : Nat} {N i : Int} {L : List Nat} (h : B2I n N i L) (hi : 0 ≤ i) : B2I n (N / 256) (i - 1) (L.set i.toNat (N % 256).toNat) := by
  obtain ⟨h0, h1, h2, h3, h4, h5, h6⟩ := h
  have e : (7 - (i - 1)).toNat = (7 - i).toNat + 1 := by omega
  refine ⟨by omega, by omega, by omega, by omega, ?_, by rw [List.length_set]; exact h5, fun j hj hj8 => ?_⟩
  · rw [e, Nat.pow_succ, ← Nat.div_div_eq_div_mul, ← h4]
    omega
  · rw [List.getD_eq_getElem?_getD, List.getElem?_set]
    by_cases hji : i.toNat = j
    · rw [if_pos hji, if_pos (by omega)]
      rw [be8_get n j hj8, show 7 - j = (7 - i).toNat by omega, ← h4]
      simp only [Option.getD_some]
      omega
    · rw [if_neg hji, ← List.getD_eq_getElem?_getD]
      exact h6 j (by omega) hj8
theorem B2I.done {n : Nat} {N : Int} {L : List Nat} (h : B2I n N (-1) L) : L = Obol.be8 n := by
  obtain ⟨h0, h1, h2, h3, h4, h5, h6⟩ := h
  have hl : (Obol.be8 n).length = 8 := rfl
  refine List.ext_getElem (by omega) fun j h1 h2 => ?_
  have := h6 j (by omega) (by omega)
  rw [List.getD_eq_getElem?_getD, List.getD_eq_getElem?_getD, List.getElem?_eq_getElem h1, List.getElem?_eq_getElem h2] at this
  exact this

abbrev zeros8 : List Nat := [0, 0, 0, 0, 0, 0, 0, 0]
theorem r2Bytes (n : Int) (hn0 : 0 ≤ n) (hn1 : n ≤ 18446744073709551615) (w : World) :
    Calls Try.prog 35 #[.int .u64 n] w fun e w' => e = .returned (.slice (some ⟨w.heap.size, 0, none⟩) 8 8) ∧ Row w' w.heap.size (u8s (Obol.be8 n.toNat)) 5 ∧ Below w.heap.size w w' := by
  obtain ⟨ti, hti, htz, hts, htb⟩ := info_parts info8
  have hmk : ∀ W : World, (Instr.makeSlice 26 (.int .i64 8) (.int .i64 8)).run Try.prog W = .ok (.slice (some ⟨W.heap.size, 0, none⟩) 8 8) (W.alloc (.cells (u8s zeros8) 5)) := fun W => by
    have h := run_make (P := Try.prog) W 26 5 ti (.int .u8 0) Try.underlying26 hti htz .i64 .i64 8 8 (by omega) (by omega) (by rw [htb]; omega) (by omega)
    rw [hts] at h
    rw [h]
    have e : madeCells (Value.int .u8 0).cells 8 = u8s zeros8 := Array.toList_inj.1 ((toList_madeCells_one (.int .u8 0) 8).trans rfl)
    rw [← e]
    rfl
  go_enter Try.func35, Try.ntmps35
  go_wp2_with fail
  go_loopw [0, 4] (fun q1 q2 wr => ∃ (N i : Int) (L : List Nat), q1 = .int .u64 N ∧ q2 = .int .i64 i ∧ Hid (B2I n.toNat N i L) ∧ Row wr w.heap.size (u8s L) 5 ∧ Below w.heap.size w wr) (fun _ q2 _ => (1 + intOf q2).toNat)
  case atStart => exact ⟨n, 7, zeros8, rfl, rfl, Lib.hid ⟨hn0, hn1, by omega, by omega, by simp, rfl, fun j h1 h2 => by omega⟩, Row.new _ _ _, bAlloc (Below.refl _ _) _⟩
  case round =>
    obtain ⟨N, i, L, rfl, rfl, HI, R, B⟩ := hrel
    obtain ⟨n0, n1, i0, i1, -, hL, -⟩ := HI.out
    by_cases hi : 0 ≤ i
    · have HN := Lib.hid (HI.out.step hi)
      have hc := R.cell i.toNat (u8s_get L i.toNat (by omega))
      have hf := R.free i.toNat
      have RN := rowSet8 R i.toNat (N % 256).toNat (z := N % 256) (by omega)
      replace hL := Lib.hid hL
      replace R := Lib.hid R
      replace B := Lib.hid (bSet (o := i.toNat) (u := .int .u8 (N % 256)) B (Nat.le_refl _))
      replace RN := Lib.hid RN
      have ht1 : N.tmod 256 = N % 256 := Int.tmod_eq_emod_of_nonneg n0
      have ht2 : N.tdiv 256 = N / 256 := Int.tdiv_eq_ediv_of_nonneg n0
      go_wp2_with fail
      exact ⟨⟨_, _, _, rfl, rfl, HN, RN.out, B.out⟩, by simp [intOf]; omega⟩
    · obtain rfl : i = -1 := by omega
      have hd := HI.out.done
      rw [hd] at R
      replace R := Lib.hid R
      replace B := Lib.hid B
      clear hd HI
      go_wp2_with fail
      go_ret
      exact ⟨rfl, R.out, B.out⟩

/-- The number of a point. -/
theorem r7Bytes (X Y : Int) (hX : 0 ≤ X) (hX1 : X ≤ 18446744073709551615) (hY : 0 ≤ Y) (hY1 : Y < 9223372036854775808) (w : World) :
    Calls Try.prog 34 #[edV X Y] w fun e w' => ∃ g, e = .returned (.slice (some ⟨g, 0, none⟩) 8 8) ∧ w.heap.size ≤ g ∧ Row w' g (u8s (Obol.be8 (Obol.codeN (X.toNat, Y.toNat)))) 5 ∧ Below w.heap.size w w' := by
  have e1 : X.tmod 2 = X % 2 := Int.tmod_eq_emod_of_nonneg hX
  have hB := fun (n : Int) (h0 : 0 ≤ n) (h1 : n ≤ 18446744073709551615) w => r2Bytes n h0 h1 w
  rcases (by omega : X % 2 = 0 ∨ X % 2 = 1) with hp | hp
  · have hc : Hid (Obol.codeN (X.toNat, Y.toNat) = Y.toNat) := Lib.hid (by unfold Obol.codeN; simp only; omega)
    rw [hp] at e1
    go_enter Try.func34, Try.ntmps34
    go_wp2_with fail
    refine (hB Y hY (by omega) _).mono ?_
    rintro e w' ⟨rfl, R, B⟩
    rw [World.size_alloc] at R
    replace R := Lib.hid R
    replace B := Lib.hid B
    go_wp2_with fail
    go_ret
    refine ⟨_, rfl, by simp, by rw [hc.out]; exact R.out, bThen (bAlloc (Below.refl _ _) _) B.out (by simp)⟩
  · have hc : Hid (Obol.codeN (X.toNat, Y.toNat) = (Y + 9223372036854775808).toNat) := Lib.hid (by unfold Obol.codeN; simp only; omega)
    rw [hp] at e1
    go_enter Try.func34, Try.ntmps34
    go_wp2_with fail
    refine (hB (Y + 9223372036854775808) (by omega) (by omega) _).mono ?_
    rintro e w' ⟨rfl, R, B⟩
    rw [World.size_alloc] at R
    replace R := Lib.hid R
    replace B := Lib.hid B
    go_wp2_with fail
    go_ret
    refine ⟨_, rfl, by simp, by rw [hc.out]; exact R.out, bThen (bAlloc (Below.refl _ _) _) B.out (by simp)⟩

end Go.Proofs.Ytkfimfjjmdjbdaa
/- Walks: package edwards: a number's bytes. -/
namespace Go.Proofs.Ytkfimfjjmdjbdaa
open Go.RowKit

theorem take_be (n j : Nat) (h : j < 8) : (Obol.be8 n).take (j + 1) = (Obol.be8 n).take j ++ [n / 2 ^ (56 - 8 * j) % 256] := by
  match j, h with
  | 0, _ => rfl
  | 1, _ => rfl
  | 2, _ => rfl
  | 3, _ => rfl
  | 4, _ => rfl
  | 5, _ => rfl
  | 6, _ => rfl
  | 7, _ => simp [Obol.be8]

set_option maxRecDepth 8000 in
set_option maxHeartbeats 1000000 in
theorem ePut (base : Nat) (v : Value) (L : List Nat) (k : Int) (hk0 : 0 ≤ k) (hk1 : k ≤ 18446744073709551615) (hL : L.length ≤ 1000) (w : World) (hB : base ≤ w.heap.size) (hown : OwnB w base v L) :
    Calls Try.prog 78 #[v, .int .u64 k] w fun e w' => ∃ v', e = .returned v' ∧ OwnB w' base v' (L ++ Obol.be8 k.toNat) ∧ Below base w w' := by
  obtain ⟨ti, hti, htz, hts, htb⟩ := info_parts info8
  go_enter Try.func78, Try.ntmps78
  go_wp2_with fail
  go_loopw [0, 5] (fun q1 q2 wr => ∃ j : Nat, j ≤ 8 ∧ q2 = .int .i64 (56 - 8 * (j : Int)) ∧ OwnB wr base q1 (L ++ (Obol.be8 k.toNat).take j) ∧ Below base w wr) (fun _ q2 _ => (8 + intOf q2).toNat)
  case atStart => exact ⟨0, by omega, rfl, by simpa using hown, Below.refl _ _⟩
  case round =>
    obtain ⟨j, hj, rfl, hO, hW⟩ := hrel
    have hsz := hW.size
    by_cases hj8 : j < 8
    · have hlen : (L ++ (Obol.be8 k.toNat).take j).length = L.length + j := by simp [Obol.be8]; omega
      go_wp2_with (first
        | (at_builtin; refine wpList_append_own _ rfl _ _ 26 rfl base 5 ti (.int .u8 0) 1 1 Try.underlying26 hti htz hts htb rfl (by decide) _ _ _ rfl (hO.alloc _) ⟨wr.heap.size, 0, none⟩ 1 1 [.int .u8 (k / 2 ^ (56 - 8 * j) % 256)] ?c0 rfl ?c1 ?c2 ?c3 ?c4 ?c5 ?_)
        | go_in)
      case c0 => rfl
      case c1 =>
        intro q u hq
        match q, hq with
        | 0, hq => simp at hq; subst hq; simp [Addr.add]
      case c2 => intro u hu; simp at hu; subst hu; rfl
      case c3 => rw [hlen]; unfold maxLen; omega
      case c4 => rw [hlen]; omega
      case c5 => simp; omega
      · intro v' w1 hown' hgrow _
        have hrow := hO.lt
        have HO : OwnB w1 base v' (L ++ (Obol.be8 k.toNat).take (j + 1)) := by
          have e : L ++ (Obol.be8 k.toNat).take (j + 1) = (L ++ (Obol.be8 k.toNat).take j) ++ [k.toNat / 2 ^ (56 - 8 * j) % 256] := by rw [take_be _ _ hj8, List.append_assoc]
          have e2 : Value.int .u8 (k / 2 ^ (56 - 8 * j) % 256) = Value.int .u8 ((k.toNat / 2 ^ (56 - 8 * j) % 256 : Nat) : Int) := by
            obtain ⟨K, rfl⟩ := Int.eq_ofNat_of_zero_le hk0
            simp
          have e5 : ((L ++ (Obol.be8 k.toNat).take j) ++ [k.toNat / 2 ^ (56 - 8 * j) % 256]).length = L.length + j + 1 := by rw [List.length_append, hlen]; rfl
          unfold OwnB
          rw [e, e5]
          rw [e2] at hown'
          simpa [U8] using hown'
        have HW : Below base w w1 := (hW.alloc (by omega) _).grown hgrow (by simp; omega) (fun q hq => (hrow q hq).1)
        replace HO := Lib.hid HO
        replace HW := Lib.hid HW
        clear hown' hgrow hO hW hrow hlen
        go_wp2
        go_roundw
        case rel => exact ⟨j + 1, by omega, by simp; omega, HO.out, HW.out⟩
        case measure => simp [intOf]; omega
    · obtain rfl : j = 8 := by omega
      go_wp2_with fail
      go_ret
      exact ⟨_, rfl, hO, hW⟩

end Go.Proofs.Ytkfimfjjmdjbdaa
/- Walks: package edwards: points to bytes. -/
namespace Go.Proofs.Ytkfimfjjmdjbdaa
open Go.RowKit

theorem or_0 {n : Int} (h0 : 0 ≤ n) (h1 : n < 9223372036854775808) : bits .or .u64 n 0 = n := by
  obtain ⟨N, rfl⟩ := Int.eq_ofNat_of_zero_le h0
  have := u64_or_nat N 0 (by omega) (by decide)
  rw [Nat.or_zero] at this
  exact this
theorem or_63 {n : Int} (h0 : 0 ≤ n) (h1 : n < 9223372036854775808) : bits .or .u64 n 9223372036854775808 = n + 9223372036854775808 := by
  obtain ⟨N, rfl⟩ := Int.eq_ofNat_of_zero_le h0
  have e := u64_or_nat N 9223372036854775808 (by omega) (by decide)
  have h2 := Nat.two_pow_add_eq_or_of_lt (i := 63) (b := N) (by omega) 1
  rw [Nat.or_comm, Nat.mul_one] at h2
  rw [show (9223372036854775808 : Int) = ((9223372036854775808 : Nat) : Int) from rfl, e, show (9223372036854775808 : Nat) = 2 ^ 63 from rfl, ← h2]
  omega

/-- What Write tells of no point. -/
theorem eWriteNo (X Y : Int) (hX : 0 ≤ X) (hY : 0 ≤ Y) (hn : Obol.isN (X.toNat, Y.toNat) = false) (w : World) :
    Calls Try.prog 55 #[edV X Y] w fun e w' => e = .returned (.tuple #[.slice none 0 0, errV 1]) ∧ Below w.heap.size w w' := by
  have hI := fun w => eIs X Y hX hY w
  rw [hn] at hI
  replace hI := Lib.hid hI
  clear hn
  go_enter Try.func55, Try.ntmps55
  go_wp2_with fail
  refine (hI.out _).mono ?_
  rintro e w' ⟨rfl, hb⟩
  have B := Lib.hid (bThen (bAlloc (Below.refl w.heap.size w) _) hb (by simp))
  clear hb
  go_wp2_with fail
  go_ret2
  exact ⟨rfl, B.out⟩

theorem eWrite (X Y : Int) (hX : 0 ≤ X) (hY : 0 ≤ Y) (hn : Obol.isN (X.toNat, Y.toNat) = true) (w : World) :
    Calls Try.prog 55 #[edV X Y] w fun e w' => ∃ v, e = .returned (.tuple #[v, .nilIface]) ∧ OwnB w' w.heap.size v (Obol.be8 (Obol.codeN (X.toNat, Y.toNat))) ∧ Below w.heap.size w w' := by
  have hI := fun w => eIs X Y hX hY w
  rw [hn] at hI
  replace hI := Lib.hid hI
  have hlt : X < 288230376287764481 ∧ Y < 288230376287764481 := by
    unfold Obol.isN at hn
    simp only [Bool.and_eq_true, decide_eq_true_eq] at hn
    have h1 := hn.1.1
    have h2 := hn.1.2
    rw [Obol.R_def] at h1 h2
    omega
  have ha := and_1 hX (by omega)
  have ho0 := or_0 hY (by omega)
  have ho1 := or_63 hY (by omega)
  have hP := fun (k : Int) (h0 : 0 ≤ k) (h1 : k ≤ 18446744073709551615) (W : World) (hB : w.heap.size ≤ W.heap.size) => ePut w.heap.size (.slice none 0 0) [] k h0 h1 (by decide) W hB (OwnB.nil _ _)
  replace hP := Lib.hid hP
  clear hn
  rcases (by omega : X % 2 = 0 ∨ X % 2 = 1) with hp | hp
  · have hc : Hid (Obol.codeN (X.toNat, Y.toNat) = Y.toNat) := Lib.hid (by unfold Obol.codeN; simp only; omega)
    rw [hp] at ha
    go_enter Try.func55, Try.ntmps55
    go_wp2_with fail
    refine (hI.out _).mono ?_
    rintro e w1 ⟨rfl, hb⟩
    have R := (Row.new w #[.int .u64 X, .int .u64 Y] 24).below hb (by simp)
    have B := bThen (bAlloc (Below.refl w.heap.size w) _) hb (by simp)
    have g0 := R.cell 0 rfl
    have g1 := R.cell 1 rfl
    have hz := B.size
    replace B := Lib.hid B
    clear hb
    go_wp2_with fail
    refine (hP.out Y hY (by omega) _ hz).mono ?_
    rintro e w2 ⟨v, rfl, hO, hb⟩
    replace hO := Lib.hid hO
    replace B := Lib.hid (B.out.trans hb)
    clear hb
    go_wp2_with fail
    go_ret2
    refine ⟨_, rfl, ?_, B.out⟩
    rw [hc.out]
    exact hO.out
  · have hc : Hid (Obol.codeN (X.toNat, Y.toNat) = (Y + 9223372036854775808).toNat) := Lib.hid (by unfold Obol.codeN; simp only; omega)
    rw [hp] at ha
    go_enter Try.func55, Try.ntmps55
    go_wp2_with fail
    refine (hI.out _).mono ?_
    rintro e w1 ⟨rfl, hb⟩
    have R := (Row.new w #[.int .u64 X, .int .u64 Y] 24).below hb (by simp)
    have B := bThen (bAlloc (Below.refl w.heap.size w) _) hb (by simp)
    have g0 := R.cell 0 rfl
    have g1 := R.cell 1 rfl
    have hz := B.size
    replace B := Lib.hid B
    clear hb
    go_wp2_with fail
    refine (hP.out (Y + 9223372036854775808) (by omega) (by omega) _ hz).mono ?_
    rintro e w2 ⟨v, rfl, hO, hb⟩
    replace hO := Lib.hid hO
    replace B := Lib.hid (B.out.trans hb)
    clear hb
    go_wp2_with fail
    go_ret2
    refine ⟨_, rfl, ?_, B.out⟩
    rw [hc.out]
    exact hO.out

end Go.Proofs.Ytkfimfjjmdjbdaa
/- Walks: package blake: words; the mixing of four words. -/
namespace Obol

def rotW (n x : Nat) : Nat := (x * 2 ^ (32 - n) % 4294967296) ||| (x / 2 ^ n)
def add3 (p q x : Nat) : Nat := (p + q + x) % 4294967296
def add2 (p q : Nat) : Nat := (p + q) % 4294967296
/-- Four words of sixteen, with two more: eight statements. -/
def sA (L : List Nat) (a b x : Nat) : List Nat := L.set a (add3 (L.getD a 0) (L.getD b 0) x)
def sC (L : List Nat) (c d : Nat) : List Nat := L.set c (add2 (L.getD c 0) (L.getD d 0))
def sX (L : List Nat) (n t s : Nat) : List Nat := L.set t (rotW n (L.getD t 0 ^^^ L.getD s 0))
def mixL (L : List Nat) (a b c d x y : Nat) : List Nat :=
  sX (sC (sX (sA (sX (sC (sX (sA L a b x) 16 d a) c d) 12 b c) a b y) 8 d a) c d) 7 b c

/-- So many words. -/
structure W32 (n : Nat) (L : List Nat) : Prop where
  len : L.length = n
  lt : ∀ i, L.getD i 0 < 4294967296
theorem W32.set {n : Nat} {L : List Nat} (h : W32 n L) (i z : Nat) (hz : z < 4294967296) : W32 n (L.set i z) := by
  refine ⟨by rw [List.length_set]; exact h.len, fun j => ?_⟩
  rw [List.getD_eq_getElem?_getD, List.getElem?_set]
  split
  · split
    · exact hz
    · decide
  · rw [← List.getD_eq_getElem?_getD]; exact h.lt j
theorem rotW_lt (n x : Nat) (hx : x < 4294967296) : rotW n x < 4294967296 := by
  unfold rotW
  have h1 : x * 2 ^ (32 - n) % 4294967296 < 2 ^ 32 := Nat.mod_lt _ (by decide)
  have h2 : x / 2 ^ n < 2 ^ 32 := Nat.lt_of_le_of_lt (Nat.div_le_self _ _) hx
  exact Nat.or_lt_two_pow h1 h2
theorem add3_lt (p q x : Nat) : add3 p q x < 4294967296 := Nat.mod_lt _ (by decide)
theorem add2_lt (p q : Nat) : add2 p q < 4294967296 := Nat.mod_lt _ (by decide)
theorem xor_lt {p q : Nat} (hp : p < 4294967296) (hq : q < 4294967296) : p ^^^ q < 4294967296 := Nat.xor_lt_two_pow (n := 32) hp hq

end Obol
namespace Go.Proofs.Ytkfimfjjmdjbdaa
open Go.RowKit

def u32s (L : List Nat) : Array Value := (L.map fun (n : Nat) => Value.int .u32 (n : Int)).toArray
theorem u32s_get {n : Nat} {L : List Nat} (h : Obol.W32 n L) (i : Nat) (hi : i < n) : (u32s L)[i]? = some (.int .u32 ((L.getD i 0 : Nat) : Int)) := by
  have hl : i < L.length := by rw [h.len]; exact hi
  unfold u32s
  rw [List.getElem?_toArray, List.getElem?_map, List.getElem?_eq_getElem hl, List.getD_eq_getElem?_getD, List.getElem?_eq_getElem hl]
  rfl
theorem rowSet {w : World} {k : Nat} {L : List Nat} {t : TypeId} (h : Row w k (u32s L) t) (i Z : Nat) {z : Int} (hz : z = (Z : Int)) : Row (w.setCell ⟨k, i, none⟩ (.int .u32 z)) k (u32s (L.set i Z)) t := by
  have e : (u32s L).setIfInBounds i (.int .u32 z) = u32s (L.set i Z) := by
    unfold u32s
    rw [List.setIfInBounds_toArray, List.map_set, hz]
  rw [← e]
  exact h.set i _
theorem add3_is {p q x : Int} {P Q : Nat} (hp : (P : Int) = p) (hq : (Q : Int) = q) (hx : 0 ≤ x) : (p + (q + x) % 4294967296) % 4294967296 = ((Obol.add3 P Q x.toNat : Nat) : Int) := by
  unfold Obol.add3; omega
theorem add2_is {p q : Int} {P Q : Nat} (hp : (P : Int) = p) (hq : (Q : Int) = q) : (p + q) % 4294967296 = ((Obol.add2 P Q : Nat) : Int) := by
  unfold Obol.add2; omega
theorem xor_eq {p q : Int} {P Q : Nat} (hp : (P : Int) = p) (hq : (Q : Int) = q) (h1 : P < 4294967296) (h2 : Q < 4294967296) : bits .xor .u32 p q = ((P ^^^ Q : Nat) : Int) := by
  subst hp hq; exact u32_xor_nat P Q h1 h2
theorem or_rot {x : Int} (n : Nat) (h0 : 0 ≤ x) (h1 : x ≤ 4294967295) : bits .or .u32 (x * 2 ^ (32 - n) % 4294967296) (x / 2 ^ n) = ((Obol.rotW n x.toNat : Nat) : Int) := by
  obtain ⟨X, rfl⟩ := Int.eq_ofNat_of_zero_le h0
  have e1 : (X : Int) * 2 ^ (32 - n) % 4294967296 = ((X * 2 ^ (32 - n) % 4294967296 : Nat) : Int) := by simp
  have e2 : (X : Int) / 2 ^ n = ((X / 2 ^ n : Nat) : Int) := by simp
  rw [e1, e2, u32_or_nat _ _ (Nat.mod_lt _ (by decide)) (Nat.lt_of_le_of_lt (Nat.div_le_self _ _) (by omega))]
  rfl
end Go.Proofs.Ytkfimfjjmdjbdaa
/- Plain law: the digest. No program in sight. -/
namespace Obol

def firstL : List Nat := [1779033703, 3144134277, 1013904242, 2773480762, 1359893119, 2600822924, 528734635, 1541459225]
def rowsL : List (List Nat) := [
  [0, 1, 2, 3, 4, 5, 6, 7, 8, 9, 10, 11, 12, 13, 14, 15],
  [14, 10, 4, 8, 9, 15, 13, 6, 1, 12, 0, 2, 11, 7, 5, 3],
  [11, 8, 12, 0, 5, 2, 15, 13, 10, 14, 3, 6, 7, 1, 9, 4],
  [7, 9, 3, 1, 13, 12, 11, 14, 2, 6, 5, 10, 4, 0, 15, 8],
  [9, 0, 5, 7, 2, 4, 10, 15, 14, 1, 11, 12, 6, 8, 3, 13],
  [2, 12, 6, 10, 0, 11, 8, 3, 4, 13, 7, 5, 15, 14, 1, 9],
  [12, 5, 1, 15, 14, 13, 4, 10, 0, 7, 6, 3, 9, 2, 8, 11],
  [13, 11, 7, 14, 12, 1, 3, 9, 5, 0, 15, 4, 8, 6, 2, 10],
  [6, 15, 14, 9, 11, 3, 0, 8, 12, 2, 13, 7, 1, 4, 10, 5],
  [10, 2, 8, 4, 7, 6, 1, 5, 15, 11, 9, 14, 3, 12, 13, 0]]
def rowAt (i k : Nat) : Nat := (rowsL.getD i []).getD k 0
theorem rowAt_lt : ∀ i k : Nat, rowAt i k < 16 := by
  have h : ∀ l ∈ rowsL, ∀ x ∈ l, x < 16 := by decide +kernel
  intro i k
  unfold rowAt
  rw [List.getD_eq_getElem?_getD, List.getD_eq_getElem?_getD]
  cases hi : rowsL[i]? with
  | none => simp
  | some l =>
    simp only [Option.getD_some]
    cases hk : l[k]? with
    | none => simp
    | some x => exact h l (List.mem_of_getElem? hi) x (List.mem_of_getElem? hk)
def wordAt (b : List Nat) (o : Nat) : Nat := b.getD o 0 + 256 * b.getD (o + 1) 0 + 65536 * b.getD (o + 2) 0 + 16777216 * b.getD (o + 3) 0
def msgL (b : List Nat) (o : Nat) : List Nat := (List.range 16).map fun i => wordAt b (o + 4 * i)
def colMix (m : List Nat) (i k : Nat) (v : List Nat) : List Nat := mixL v k (4 + k) (8 + k) (12 + k) (m.getD (rowAt i (2 * k)) 0) (m.getD (rowAt i (2 * k + 1)) 0)
def diaMix (m : List Nat) (i k : Nat) (v : List Nat) : List Nat := mixL v k (4 + (k + 1) % 4) (8 + (k + 2) % 4) (12 + (k + 3) % 4) (m.getD (rowAt i (8 + 2 * k)) 0) (m.getD (rowAt i (9 + 2 * k)) 0)
def cols (m : List Nat) (i : Nat) : Nat → List Nat → List Nat
  | 0, v => v
  | k + 1, v => colMix m i k (cols m i k v)
def dias (m : List Nat) (i : Nat) : Nat → List Nat → List Nat
  | 0, v => v
  | k + 1, v => diaMix m i k (dias m i k v)
def rnds (m : List Nat) : Nat → List Nat → List Nat
  | 0, v => v
  | i + 1, v => dias m i 4 (cols m i 4 (rnds m i v))
def last14 (v : List Nat) (last : Bool) : List Nat := if last then v.set 14 (v.getD 14 0 ^^^ 4294967295) else v
def count12 (v : List Nat) (count : Nat) : List Nat := (v.set 12 (v.getD 12 0 ^^^ (count % 4294967296))).set 13 ((v.set 12 (v.getD 12 0 ^^^ (count % 4294967296))).getD 13 0 ^^^ (count / 4294967296 % 4294967296))
def startV (h : List Nat) (count : Nat) (last : Bool) : List Nat := last14 (count12 (h ++ firstL) count) last
def endV (h v : List Nat) : Nat → List Nat → List Nat
  | 0, l => l
  | i + 1, l => (endV h v i l).set i (h.getD i 0 ^^^ (v.getD i 0 ^^^ v.getD (8 + i) 0))
def pressL (h m : List Nat) (count : Nat) (last : Bool) : List Nat := endV h (rnds m 10 (startV h count last)) 8 h
def initH (p : List Nat) : List Nat := ((firstL.set 0 1795745351).set 6 (528734635 ^^^ wordAt p 0)).set 7 (1541459225 ^^^ wordAt p 4)
def stH (p b : List Nat) : Nat → List Nat
  | 0 => initH p
  | j + 1 => pressL (stH p b j) (msgL b (64 * j)) (min (64 * (j + 1)) b.length) (decide (b.length ≤ 64 * (j + 1)))
def nBlocks (len : Nat) : Nat := if len = 0 then 1 else (len + 63) / 64
def bytes4 (x : Nat) : List Nat := [x % 256, x / 256 % 256, x / 65536 % 256, x / 16777216 % 256]
def wordsB (l : List Nat) : List Nat := l.flatMap bytes4
def sumL (p b : List Nat) : List Nat := wordsB (stH p b (nBlocks b.length))

theorem sumL_abc : (sumL [] [97, 98, 99]).getD 0 0 = 80 ∧ (sumL [] [97, 98, 99]).getD 1 0 = 140 ∧ (sumL [] [97, 98, 99]).getD 31 0 = 130 := by decide +kernel

end Obol
/- Whole blocks that are arrays: loaded and stored in one piece. -/
namespace Go.Proofs.Ytkfimfjjmdjbdaa
open Go.RowKit

theorem Row.range {w : World} {b : Nat} {cs : Array Value} {t : TypeId} (h : Row w b cs t) : w.rangeAt b 0 cs.toList := fun j v hj => by
  rw [Nat.zero_add]
  exact h.cell j (by simpa using hj)
theorem Row.there {w : World} {b : Nat} {cs : Array Value} {t : TypeId} (h : Row w b cs t) : w.there b 0 cs.size := fun j hj => by
  rw [Nat.zero_add, h.cell j (v := cs[j]) (by simp [hj])]
  exact ⟨rfl, h.free j⟩
theorem Row.setMany {b : Nat} {t : TypeId} : ∀ (vs : List Value) (o : Nat) (w : World) (cs : Array Value), Row w b cs t → o + vs.length ≤ cs.size →
    Row (w.setCells b o vs) b (cs.toList.take o ++ vs ++ cs.toList.drop (o + vs.length)).toArray t
  | [], o, w, cs, h, _ => by simpa [World.setCells] using h
  | v :: r, o, w, cs, h, hs => by
    have hs' : o + 1 + r.length ≤ (cs.setIfInBounds o v).size := by simp at hs ⊢; omega
    have ih := Row.setMany r (o + 1) _ _ (h.set o v) hs'
    have ho : o < cs.size := by simp at hs; omega
    rw [World.setCells]
    have e : (cs.setIfInBounds o v).toList.take (o + 1) ++ r ++ (cs.setIfInBounds o v).toList.drop (o + 1 + r.length) = cs.toList.take o ++ v :: r ++ cs.toList.drop (o + (v :: r).length) := by
      have h1 : (cs.toList.set o v).take (o + 1) = cs.toList.take o ++ [v] := by
        rw [List.take_add_one, List.take_set_of_le (Nat.le_refl o), List.getElem?_set_self (by simpa using ho)]
        rfl
      have h2 : (cs.toList.set o v).drop (o + 1 + r.length) = cs.toList.drop (o + (v :: r).length) := by
        rw [List.drop_set_of_lt (by omega), List.length_cons, show o + 1 + r.length = o + (r.length + 1) by omega]
      rw [Array.toList_setIfInBounds, h1, h2]
      simp
    rw [← e]
    exact ih
theorem Row.store {w : World} {b : Nat} {cs : Array Value} {t : TypeId} (h : Row w b cs t) (cs' : Array Value) (hs : cs'.size = cs.size) : Row (w.setCells b 0 cs'.toList) b cs' t := by
  have := Row.setMany cs'.toList 0 w cs h (by simp [hs])
  have e : cs.toList.take 0 ++ cs'.toList ++ cs.toList.drop (0 + cs'.toList.length) = cs'.toList := by
    rw [List.take_zero, List.nil_append, List.drop_eq_nil_of_le (by simp [hs]), List.append_nil]
  rw [e] at this
  exact this

theorem bSetMany {B : Nat} {a : World} {b : Nat} (hb : B ≤ b) : ∀ (vs : List Value) (o : Nat) (w : World), Below B a w → Below B a (w.setCells b o vs)
  | [], _, _, h => h
  | v :: r, o, w, h => bSetMany hb r (o + 1) _ (bSet h hb)

/-- A result that is an array in a block of its own. -/
theorem results_row {P : Program} {fn : Func} {p : Tmp} {t : TypeId} (h : fn.results = #[.cell p t]) (tmps : Array Value) {w : World} {b : Nat} {cs : Array Value} {d : TypeDesc} (ht : tmps.getD p undef = .pointer (some ⟨b, 0, none⟩))
    (hR : Row w b cs t) (hu : P.underlying t = some d) (hd : d.isRow = true) (hi : (P.info? t).map (·.size) = some cs.size) : (results fn tmps).run P w = .ok (.agg cs) w := by
  have hl := run_loadVar_mid (P := P) w b 0 t cs.toList d hR.range hu hd (by rw [hi]; simp)
  rw [Array.toArray_toList] at hl
  have ht' : tmps[p]?.getD undef = .pointer (some ⟨b, 0, none⟩) := by simpa using ht
  simp [results, h, ht', asAddr, hl]

end Go.Proofs.Ytkfimfjjmdjbdaa
/- Walks: package blake: a word of four bytes; the words of the beginning. -/
namespace Go.Proofs.Ytkfimfjjmdjbdaa
open Go.RowKit

theorem or_at (k : Nat) (hk : k ≤ 24) {p c : Int} (p0 : 0 ≤ p) (p1 : p < 2 ^ k) (c0 : 0 ≤ c) (c1 : c ≤ 255) : bits .or .u32 p (c * 2 ^ k) = p + c * 2 ^ k := by
  obtain ⟨P, rfl⟩ := Int.eq_ofNat_of_zero_le p0
  obtain ⟨C, rfl⟩ := Int.eq_ofNat_of_zero_le c0
  have hP : P < 2 ^ k := by
    have e : ((2 ^ k : Nat) : Int) = 2 ^ k := by rw [Int.natCast_pow]; rfl
    omega
  have hk2 : 2 ^ k ≤ 2 ^ 24 := Nat.pow_le_pow_right (by decide) hk
  have hC : C * 2 ^ k ≤ 255 * 2 ^ 24 := Nat.mul_le_mul (by omega) hk2
  have e2 : ((C : Int) * 2 ^ k) = ((C * 2 ^ k : Nat) : Int) := by rw [Int.natCast_mul, Int.natCast_pow]; rfl
  have h := Nat.two_pow_add_eq_or_of_lt hP C
  rw [e2, u32_or_nat _ _ (by omega) (by omega), Nat.or_comm, Nat.mul_comm C, ← h]
  omega

end Go.Proofs.Ytkfimfjjmdjbdaa
/- Walks: package blake: the mixing of four words. -/
namespace Go.Proofs.Ytkfimfjjmdjbdaa
open Go.RowKit

theorem word_at {n : Nat} {L : List Nat} (h : Obol.W32 n L) {i : Int} (_h0 : 0 ≤ i) (_h1 : i < n) : ∃ v : Int, ((L.getD i.toNat 0 : Nat) : Int) = v ∧ 0 ≤ v ∧ v ≤ 4294967295 :=
  ⟨_, rfl, by omega, by have := h.lt i.toNat; omega⟩
theorem u32s_at {n : Nat} {L : List Nat} (h : Obol.W32 n L) {i : Int} (h0 : 0 ≤ i) (h1 : i < n) : (u32s L)[i.toNat]? = some (.int .u32 ((L.getD i.toNat 0 : Nat) : Int)) := u32s_get h _ (by omega)

end Go.Proofs.Ytkfimfjjmdjbdaa
/- A region that draws its order, operation by operation. -/
namespace Go.Proofs.Ytkfimfjjmdjbdaa
open Go.RowKit

/-! a region that draws, op by op -/
section
variable {P : Program} {ops : List Oper} {Q : Exit → Act → World → Prop} {md : Region.Mode} {S : World → Prop}
theorem takeH (i : Nat) {oi : Oper} {v : Value} {fuel : Nat} {listed : Array Bool} {a : Act} {w : World} (hQ : ∀ c a d v w, Q (.panic c) (a.put d v) w → Q (.panic c) a w) (hs : Region.noSelect ops.toArray = true) (hS : S w)
    (hi : ops[i]? = some oi) (hf : (Region.free md ops.toArray listed i && (Region.ready md ops.toArray listed).contains i) = true)
    (hw : Region.wanted oi (yielded ops.toArray a.tmps) = true) (hv : ∀ w, S w → (execOp a.eval oi).run P w = .ok (.value v) w)
    (h : wpAnyH P md ops.toArray Q S fuel (listed.setIfInBounds i true) (a.put oi.dst v) w) : wpAnyH P md ops.toArray Q S (fuel + 1) listed a w := by
  rw [Bool.and_eq_true] at hf
  exact wpAnyH_take (by rw [List.getElem?_toArray]; exact hi) hs hf.1 hf.2 (fun c a w h => hQ c a _ _ w h) (Or.inl ⟨hw, hv⟩) hS h
theorem skipH (i : Nat) {oi : Oper} {fuel : Nat} {listed : Array Bool} {a : Act} {w : World} (hQ : ∀ c a d v w, Q (.panic c) (a.put d v) w → Q (.panic c) a w) (hs : Region.noSelect ops.toArray = true) (hS : S w)
    (hi : ops[i]? = some oi) (hf : (Region.free md ops.toArray listed i && (Region.ready md ops.toArray listed).contains i) = true)
    (hw : Region.wanted oi (yielded ops.toArray a.tmps) = false)
    (h : wpAnyH P md ops.toArray Q S fuel (listed.setIfInBounds i true) (a.put oi.dst undef) w) : wpAnyH P md ops.toArray Q S (fuel + 1) listed a w := by
  rw [Bool.and_eq_true] at hf
  exact wpAnyH_take (by rw [List.getElem?_toArray]; exact hi) hs hf.1 hf.2 (fun c a w h => hQ c a _ _ w h) (Or.inr ⟨hw, rfl⟩) hS h
theorem stepH (i : Nat) {oi : Oper} {fuel : Nat} {listed : Array Bool} {a : Act} {w : World} (hr : Region.ready md ops.toArray listed = [i]) (hi : ops[i]? = some oi)
    (hw : Region.wanted oi (yielded ops.toArray a.tmps) = true)
    (h : ∀ K' : Act → World → Prop, Shut (∀ a w, S w → (S w → wpAnyH P md ops.toArray Q S fuel (listed.setIfInBounds i true) a w) → K' a w) → Oper.wp P oi a w K' Q) : wpAnyH P md ops.toArray Q S (fuel + 1) listed a w :=
  wpAnyH_ready hr (by simp) (AllReadyH.cons (by rw [List.getElem?_toArray]; exact hi) (fun K hK => by rw [if_pos hw]; exact h K hK) AllReadyH.nil)
theorem tk (i : Nat) {oi : Oper} {v : Value} {fuel : Nat} {listed : Array Bool} {a a' : Act} {w : World} (hS : S w) (h : wpAnyH P md ops.toArray Q S fuel (listed.setIfInBounds i true) a' w)
    (hQ : ∀ c a d v w, Q (.panic c) (a.put d v) w → Q (.panic c) a w := by exact fun _ _ _ _ _ h => h) (hs : Region.noSelect ops.toArray = true := by kernel_rfl)
    (hi : ops[i]? = some oi := by exact rfl) (hf : (Region.free md ops.toArray listed i && (Region.ready md ops.toArray listed).contains i) = true := by kernel_rfl)
    (hw : Region.wanted oi (yielded ops.toArray a.tmps) = true := by rfl) (hv : ∀ w, S w → (execOp a.eval oi).run P w = .ok (.value v) w := by ((intro wz hz; (try dsimp only at hz); go_simp) <;> with_reducible rfl))
    (ha : a.put oi.dst v = a' := by first | (simp only [Act.put, List.setIfInBounds_toArray, List.set_cons_zero, List.set_cons_succ]; exact rfl) | exact rfl) : wpAnyH P md ops.toArray Q S (fuel + 1) listed a w := by
  subst ha
  exact takeH i hQ hs hS hi hf hw hv h
theorem sk (i : Nat) {oi : Oper} {fuel : Nat} {listed : Array Bool} {a a' : Act} {w : World} (hS : S w) (h : wpAnyH P md ops.toArray Q S fuel (listed.setIfInBounds i true) a' w)
    (hQ : ∀ c a d v w, Q (.panic c) (a.put d v) w → Q (.panic c) a w := by exact fun _ _ _ _ _ h => h) (hs : Region.noSelect ops.toArray = true := by kernel_rfl)
    (hi : ops[i]? = some oi := by exact rfl) (hf : (Region.free md ops.toArray listed i && (Region.ready md ops.toArray listed).contains i) = true := by kernel_rfl)
    (hw : Region.wanted oi (yielded ops.toArray a.tmps) = false := by rfl)
    (ha : a.put oi.dst undef = a' := by first | (simp only [Act.put, List.setIfInBounds_toArray, List.set_cons_zero, List.set_cons_succ]; exact rfl) | exact rfl) : wpAnyH P md ops.toArray Q S (fuel + 1) listed a w := by
  subst ha
  exact skipH i hQ hs hS hi hf hw h
end

end Go.Proofs.Ytkfimfjjmdjbdaa
/- Walks: package blake: a block is pressed. -/
namespace Obol

theorem W32.ext {n : Nat} {L L' : List Nat} (h : W32 n L) (h' : W32 n L') (e : ∀ j, j < n → L.getD j 0 = L'.getD j 0) : L = L' := by
  refine List.ext_getElem (by rw [h.len, h'.len]) fun j h1 h2 => ?_
  have := e j (by rw [← h.len]; exact h1)
  rw [List.getD_eq_getElem?_getD, List.getD_eq_getElem?_getD, List.getElem?_eq_getElem h1, List.getElem?_eq_getElem h2] at this
  exact this
theorem getD_set (L : List Nat) (i j z : Nat) (hi : i < L.length) : (L.set i z).getD j 0 = if i = j then z else L.getD j 0 := by
  rw [List.getD_eq_getElem?_getD, List.getElem?_set, List.getD_eq_getElem?_getD]
  split
  · rename_i h
    first | rfl | (rw [if_pos (by omega)]; rfl)
  · rfl
theorem wordAt_lt (B : List Nat) (h : ∀ i, B.getD i 0 < 256) (o : Nat) : wordAt B o < 4294967296 := by
  have h0 := h o
  have h1 := h (o + 1)
  have h2 := h (o + 2)
  have h3 := h (o + 3)
  unfold wordAt
  omega
theorem msgL_get (B : List Nat) (o j : Nat) (hj : j < 16) : (msgL B o).getD j 0 = wordAt B (o + 4 * j) := by
  unfold msgL
  rw [List.getD_eq_getElem?_getD, List.getElem?_map, List.getElem?_range hj]
  rfl
theorem msgL_w (B : List Nat) (h : ∀ i, B.getD i 0 < 256) (o : Nat) : W32 16 (msgL B o) := by
  refine ⟨by simp [msgL], fun i => ?_⟩
  by_cases hi : i < 16
  · rw [msgL_get B o i hi]; exact wordAt_lt B h _
  · have : (msgL B o).getD i 0 = 0 := by
      rw [List.getD_eq_getElem?_getD, List.getElem?_eq_none (by simp [msgL]; omega)]
      rfl
    omega

end Obol
namespace Go.Proofs.Ytkfimfjjmdjbdaa
open Go.RowKit

abbrev zs (n : Nat) : List Nat := List.replicate n 0
theorem zs_w (n : Nat) : Obol.W32 n (zs n) := ⟨by simp, fun i => by simp [List.getD_eq_getElem?_getD, List.getElem?_replicate]; split <;> simp⟩

section
end

/-- The message's first words. -/
def MsgI (B M : List Nat) (i : Int) : Prop := 0 ≤ i ∧ i ≤ 16 ∧ Obol.W32 16 M ∧ ∀ j : Nat, (j : Int) < i → M.getD j 0 = Obol.wordAt B (4 * j)
theorem MsgI.step {B M : List Nat} {i : Int} (h : MsgI B M i) (hB : ∀ i, B.getD i 0 < 256) (hi : i < 16) : MsgI B (M.set i.toNat (Obol.wordAt B (4 * i.toNat))) (i + 1) := by
  obtain ⟨h0, h1, h2, h3⟩ := h
  refine ⟨by omega, by omega, h2.set _ _ (Obol.wordAt_lt B hB _), fun j hj => ?_⟩
  rw [Obol.getD_set _ _ _ _ (by rw [h2.len]; omega)]
  split
  · rename_i e; rw [e]
  · exact h3 j (by omega)
theorem MsgI.done {B M : List Nat} (h : MsgI B M 16) (hB : ∀ i, B.getD i 0 < 256) : M = Obol.msgL B 0 :=
  h.2.2.1.ext (Obol.msgL_w B hB 0) fun j hj => by rw [h.2.2.2 j (by omega), Obol.msgL_get B 0 j hj, Nat.zero_add]
/-- The state's first words. -/
def StaI (h V : List Nat) (i : Int) : Prop := 0 ≤ i ∧ i ≤ 8 ∧ Obol.W32 16 V ∧ ∀ j : Nat, (j : Int) < i → V.getD j 0 = h.getD j 0 ∧ V.getD (8 + j) 0 = Obol.firstL.getD j 0
theorem first_w : Obol.W32 8 Obol.firstL := ⟨rfl, fun i => by
  have h : ∀ x ∈ Obol.firstL, x < 4294967296 := by decide
  rw [List.getD_eq_getElem?_getD]
  cases hi : Obol.firstL[i]? with
  | none => decide
  | some x => exact h x (List.mem_of_getElem? hi)⟩
theorem StaI.step {h V : List Nat} {i : Int} (hh : Obol.W32 8 h) (p : StaI h V i) (hi : i < 8) : StaI h ((V.set i.toNat (h.getD i.toNat 0)).set (8 + i.toNat) (Obol.firstL.getD i.toNat 0)) (i + 1) := by
  obtain ⟨h0, h1, h2, h3⟩ := p
  have w1 := h2.set i.toNat (h.getD i.toNat 0) (hh.lt _)
  refine ⟨by omega, by omega, w1.set _ _ (first_w.lt _), fun j hj => ?_⟩
  rw [Obol.getD_set _ _ _ _ (by rw [w1.len]; omega), Obol.getD_set _ _ _ _ (by rw [h2.len]; omega), Obol.getD_set _ _ _ _ (by rw [w1.len]; omega), Obol.getD_set _ _ _ _ (by rw [h2.len]; omega)]
  by_cases e : i.toNat = j
  · subst e
    rw [if_neg (by omega), if_pos rfl, if_pos rfl]
    exact ⟨rfl, rfl⟩
  · rw [if_neg (by omega), if_neg e, if_neg (by omega), if_neg (by omega)]
    exact h3 j (by omega)
theorem app_w {a b : List Nat} {n m : Nat} (ha : Obol.W32 n a) (hb : Obol.W32 m b) : Obol.W32 (n + m) (a ++ b) := by
  refine ⟨by rw [List.length_append, ha.len, hb.len], fun i => ?_⟩
  have h1 := ha.lt i
  have h2 := hb.lt (i - a.length)
  rw [List.getD_eq_getElem?_getD] at *
  rw [List.getElem?_append]
  split <;> assumption
theorem StaI.done {h V : List Nat} (hh : Obol.W32 8 h) (p : StaI h V 8) : V = h ++ Obol.firstL :=
  p.2.2.1.ext (app_w hh first_w) fun j hj => by
    rw [List.getD_eq_getElem?_getD (l := h ++ Obol.firstL), List.getElem?_append]
    split
    · rename_i hl
      rw [hh.len] at hl
      rw [(p.2.2.2 j (by omega)).1, List.getD_eq_getElem?_getD]
    · rename_i hl
      rw [hh.len] at hl ⊢
      have := (p.2.2.2 (j - 8) (by omega)).2
      rw [show 8 + (j - 8) = j by omega] at this
      rw [this, List.getD_eq_getElem?_getD]

theorem index_agg {P : Program} (t e : TypeId) (N : Nat) (L : List Nat) (H : Obol.W32 N L) (ht : P.underlying t = some (.array N e)) (hu : P.underlying e = some (.int .u32)) (he : (P.info? e).map (fun i => (i.zero, i.size, i.bytes)) = some (some (.int .u32 0), 1, 4)) {i : Int} (h0 : 0 ≤ i) (h1 : i < N) (W : World) :
    (Instr.index t (.agg (u32s L)) (.int .i64 i)).run P W = .ok (.int .u32 ((L.getD i.toNat 0 : Nat) : Int)) W := by
  obtain ⟨q, hi, _, hs, _⟩ := info_parts he
  have hx := u32s_at H h0 h1
  simp [Instr.index, asIntOf, isAgg, run_underlying ht, run_underlying hu, Go.sizeOf, typeInfo, hi, hs, Result.andThen, h0, h1, part, hx]
theorem slice_arr {P : Program} (t e : TypeId) (N : Nat) (ht : P.underlying t = some (.array N e)) (he : (P.info? e).map (fun i => (i.zero, i.size, i.bytes)) = some (some (.int .u8 0), 1, 1)) (b l : Nat) (h : l < N) (W : World) :
    (Instr.sliceAt t (.pointer (some ⟨b, 0, none⟩)) (some (.int .i64 (l : Int))) none none).run P W = .ok (.slice (some ⟨b, l, none⟩) (N - l) (N - l)) W := by
  have e1 : P.arrayLen t = N := by simp [Program.arrayLen, ht]
  have e2 : P.elem t = e := by simp [Program.elem, ht]
  obtain ⟨i, hi, _, hs, _⟩ := info_parts he
  rw [run_sliceAt_array_l W t ⟨b, 0, none⟩ (by rw [e1, e2]; exact ht) .i64 l (by omega) (by rw [e1]; omega), e1, e2]
  simp [Go.sizeOf, typeInfo, hi, hs, Result.andThen, slicedAt, Addr.add]
  rw [if_neg (by omega)]
  split
  · rename_i h0; rw [h0]
  · rfl
theorem info32 : (Try.prog.info? 136).map (fun i => (i.zero, i.size, i.bytes)) = some (some (.int .u32 0), 1, 4) := by kernel_rfl

theorem mixL_w {L : List Nat} (h : Obol.W32 16 L) (a b c d x y : Nat) : Obol.W32 16 (Obol.mixL L a b c d x y) := by
  have hA : ∀ {L : List Nat}, Obol.W32 16 L → ∀ a b x, Obol.W32 16 (Obol.sA L a b x) := fun h a b x => h.set _ _ (Obol.add3_lt _ _ _)
  have hC : ∀ {L : List Nat}, Obol.W32 16 L → ∀ c d, Obol.W32 16 (Obol.sC L c d) := fun h c d => h.set _ _ (Obol.add2_lt _ _)
  have hX : ∀ {L : List Nat}, Obol.W32 16 L → ∀ n t s, Obol.W32 16 (Obol.sX L n t s) := fun h n t s => h.set _ _ (Obol.rotW_lt _ _ (Obol.xor_lt (h.lt _) (h.lt _)))
  exact hX (hC (hX (hA (hX (hC (hX (hA h _ _ _) _ _ _) _ _) _ _ _) _ _ _) _ _ _) _ _) _ _ _

theorem wrap_small {x : Int} (h0 : 0 ≤ x) (h1 : x ≤ 9223372036854775807) : IntKind.i64.wrap x = x := by rw [IntKind.wrap_i64]; omega
/-- The rounds' rows, a package-level variable: block 0. -/
def RowsAt (w : World) : Prop := 0 < w.heap.size ∧ ∀ i k : Nat, i < 10 → k < 16 → w.cell? ⟨0, i * 16 + k, none⟩ = some (.int .i64 ((Obol.rowAt i k : Nat) : Int))
theorem RowsAt.below {w wr : World} (h : RowsAt w) (hb : Below w.heap.size w wr) : RowsAt wr := ⟨Nat.lt_of_lt_of_le h.1 hb.size, fun i k hi hk => (hb.cell (p := ⟨0, i * 16 + k, none⟩) h.1).trans (h.2 i k hi hk)⟩
theorem RowsAt.at {w : World} (h : RowsAt w) {i k : Int} (i0 : 0 ≤ i) (i1 : i < 10) (k0 : 0 ≤ k) (k1 : k < 16) :
    ∃ r : Int, w.cell? ⟨0, i.toNat * 16 + k.toNat, none⟩ = some (.int .i64 r) ∧ r = ((Obol.rowAt i.toNat k.toNat : Nat) : Int) ∧ 0 ≤ r ∧ r < 16 :=
  ⟨_, h.2 i.toNat k.toNat (by omega) (by omega), rfl, by omega, by have := Obol.rowAt_lt i.toNat k.toNat; omega⟩

def RndI (M VS V : List Nat) (i : Int) : Prop := 0 ≤ i ∧ i ≤ 10 ∧ V = Obol.rnds M i.toNat VS ∧ Obol.W32 16 V
def ColI (M : List Nat) (i : Int) (V U : List Nat) (k : Int) : Prop := 0 ≤ k ∧ k ≤ 4 ∧ U = Obol.cols M i.toNat k.toNat V ∧ Obol.W32 16 U
def DiaI (M : List Nat) (i : Int) (V U : List Nat) (k : Int) : Prop := 0 ≤ k ∧ k ≤ 4 ∧ U = Obol.dias M i.toNat k.toNat V ∧ Obol.W32 16 U
theorem ColI.step {M V U : List Nat} {i k : Int} (h : ColI M i V U k) (hk : k < 4) : ColI M i V (Obol.colMix M i.toNat k.toNat U) (k + 1) := by
  obtain ⟨h0, h1, h2, h3⟩ := h
  refine ⟨by omega, by omega, ?_, mixL_w h3 _ _ _ _ _ _⟩
  rw [show (k + 1).toNat = k.toNat + 1 by omega, h2]
  rfl
theorem DiaI.step {M V U : List Nat} {i k : Int} (h : DiaI M i V U k) (hk : k < 4) : DiaI M i V (Obol.diaMix M i.toNat k.toNat U) (k + 1) := by
  obtain ⟨h0, h1, h2, h3⟩ := h
  refine ⟨by omega, by omega, ?_, mixL_w h3 _ _ _ _ _ _⟩
  rw [show (k + 1).toNat = k.toNat + 1 by omega, h2]
  rfl
theorem RndI.step {M VS V U U' : List Nat} {i : Int} (h : RndI M VS V i) (hi : i < 10) (hc : ColI M i V U 4) (hd : DiaI M i U U' 4) : RndI M VS U' (i + 1) := by
  obtain ⟨h0, h1, h2, h3⟩ := h
  refine ⟨by omega, by omega, ?_, hd.2.2.2⟩
  rw [show (i + 1).toNat = i.toNat + 1 by omega, hd.2.2.1, hc.2.2.1, h2]
  rfl
theorem col_is {M U : List Nat} {i k r1 r2 x y : Int} (k0 : 0 ≤ k) (h1 : r1 = ((Obol.rowAt i.toNat (2 * k).toNat : Nat) : Int)) (h2 : r2 = ((Obol.rowAt i.toNat (2 * k + 1).toNat : Nat) : Int)) (hx : ((M.getD r1.toNat 0 : Nat) : Int) = x) (hy : ((M.getD r2.toNat 0 : Nat) : Int) = y) :
    Obol.mixL U k.toNat (4 + k).toNat (8 + k).toNat (12 + k).toNat x.toNat y.toNat = Obol.colMix M i.toNat k.toNat U := by
  subst hx hy h1 h2
  unfold Obol.colMix
  rw [Int.toNat_natCast, Int.toNat_natCast, Int.toNat_natCast, Int.toNat_natCast, show (4 + k).toNat = 4 + k.toNat by omega, show (8 + k).toNat = 8 + k.toNat by omega, show (12 + k).toNat = 12 + k.toNat by omega, show (2 * k).toNat = 2 * k.toNat by omega, show (2 * k + 1).toNat = 2 * k.toNat + 1 by omega]
theorem dia_is {M U : List Nat} {i k k1 k2 k3 r1 r2 x y : Int} (k0 : 0 ≤ k) (e1 : (k + 1) % 4 = k1) (e2 : (k + 2) % 4 = k2) (e3 : (k + 3) % 4 = k3) (h1 : r1 = ((Obol.rowAt i.toNat (8 + 2 * k).toNat : Nat) : Int)) (h2 : r2 = ((Obol.rowAt i.toNat (9 + 2 * k).toNat : Nat) : Int)) (hx : ((M.getD r1.toNat 0 : Nat) : Int) = x) (hy : ((M.getD r2.toNat 0 : Nat) : Int) = y) :
    Obol.mixL U k.toNat (4 + k1).toNat (8 + k2).toNat (12 + k3).toNat x.toNat y.toNat = Obol.diaMix M i.toNat k.toNat U := by
  subst hx hy h1 h2
  unfold Obol.diaMix
  rw [Int.toNat_natCast, Int.toNat_natCast, Int.toNat_natCast, Int.toNat_natCast, show (4 + k1).toNat = 4 + (k.toNat + 1) % 4 by omega, show (8 + k2).toNat = 8 + (k.toNat + 2) % 4 by omega, show (12 + k3).toNat = 12 + (k.toNat + 3) % 4 by omega, show (8 + 2 * k).toNat = 8 + 2 * k.toNat by omega, show (9 + 2 * k).toNat = 9 + 2 * k.toNat by omega]
theorem cells_next {w1 w2 : World} {b4 : Nat} {p q s u : Addr} {v1 v2 v3 v4 : Value} (hb : Below b4 w1 w2) (h : w1.cell? p = some v1 ∧ w1.cell? q = some v2 ∧ w1.cell? s = some v3 ∧ w1.cell? u = some v4) (hp : p.block < b4) (hq : q.block < b4) (hs : s.block < b4) (hu : u.block < b4) :
    w2.cell? p = some v1 ∧ w2.cell? q = some v2 ∧ w2.cell? s = some v3 ∧ w2.cell? u = some v4 :=
  ⟨(hb.cell hp).trans h.1, (hb.cell hq).trans h.2.1, (hb.cell hs).trans h.2.2.1, (hb.cell hu).trans h.2.2.2⟩
/-- The words' end. -/
def EndI (h v L : List Nat) (i : Int) : Prop := 0 ≤ i ∧ i ≤ 8 ∧ L = Obol.endV h v i.toNat h ∧ Obol.W32 8 L ∧ ∀ j : Nat, i ≤ (j : Int) → L.getD j 0 = h.getD j 0
theorem EndI.step {h v L : List Nat} {i : Int} (e : EndI h v L i) (hi : i < 8) {Z : Nat} (hz : Z = L.getD i.toNat 0 ^^^ (v.getD i.toNat 0 ^^^ v.getD (8 + i.toNat) 0)) (hZ : Z < 4294967296) : EndI h v (L.set i.toNat Z) (i + 1) := by
  obtain ⟨h0, h1, h2, h3, h4⟩ := e
  refine ⟨by omega, by omega, ?_, h3.set _ _ hZ, fun j hj => ?_⟩
  · rw [show (i + 1).toNat = i.toNat + 1 by omega, hz, h4 i.toNat (by omega)]
    show _ = (Obol.endV h v i.toNat h).set i.toNat _
    rw [← h2]
  · rw [Obol.getD_set _ _ _ _ (by rw [h3.len]; omega), if_neg (by omega)]
    exact h4 j (by omega)

end Go.Proofs.Ytkfimfjjmdjbdaa
/- Walks: package blake: the digest. -/
namespace Obol

/-- A block's bytes. -/
def blockL (b : List Nat) (j : Nat) : List Nat := (List.range 64).map fun i => b.getD (64 * j + i) 0
theorem blockL_get (b : List Nat) (j i : Nat) (hi : i < 64) : (blockL b j).getD i 0 = b.getD (64 * j + i) 0 := by
  unfold blockL
  rw [List.getD_eq_getElem?_getD, List.getElem?_map, List.getElem?_range hi]
  rfl
theorem blockL_len (b : List Nat) (j : Nat) : (blockL b j).length = 64 := by simp [blockL]
theorem msg_block (b : List Nat) (j : Nat) : msgL (blockL b j) 0 = msgL b (64 * j) := by
  unfold msgL
  refine List.map_congr_left fun i hi => ?_
  have hi := List.mem_range.1 hi
  unfold wordAt
  rw [blockL_get _ _ _ (by omega), blockL_get _ _ _ (by omega), blockL_get _ _ _ (by omega), blockL_get _ _ _ (by omega)]
  simp only [Nat.zero_add, Nat.add_assoc]
def pad8 (p : List Nat) : List Nat := (List.range 8).map fun i => p.getD i 0
theorem pad8_get (p : List Nat) (i : Nat) (hi : i < 8) : (pad8 p).getD i 0 = p.getD i 0 := by
  unfold pad8
  rw [List.getD_eq_getElem?_getD, List.getElem?_map, List.getElem?_range hi]
  rfl
theorem pad8_len (p : List Nat) : (pad8 p).length = 8 := by simp [pad8]
theorem word_pad (p : List Nat) (o : Nat) (h : o + 3 < 8) : wordAt (pad8 p) o = wordAt p o := by
  unfold wordAt
  rw [pad8_get _ _ (by omega), pad8_get _ _ (by omega), pad8_get _ _ (by omega), pad8_get _ _ (by omega)]

end Obol
namespace Go.Proofs.Ytkfimfjjmdjbdaa
open Go.RowKit

theorem byte_lt (b : UInt8) : b.toNat < 256 := b.toNat_lt
/-- A string's bytes. -/
def strL (s : ByteArray) : List Nat := s.data.toList.map fun b => b.toNat
theorem strL_lt (s : ByteArray) (i : Nat) : (strL s).getD i 0 < 256 := by
  unfold strL
  rw [List.getD_eq_getElem?_getD, List.getElem?_map]
  cases s.data.toList[i]? with
  | none => decide
  | some x => exact byte_lt x
theorem strL_len (s : ByteArray) : (strL s).length = s.size := by unfold strL; simp

theorem setRow_row {w : World} {g : Nat} {cs cs' : Array Value} {t : TypeId} (h : Row w g cs t) : Row (w.setRow g cs') g cs' t := setRow_heap w g cs cs' t (0, 0) h
theorem setRow_keep {w : World} {g b : Nat} {cs cs' : Array Value} {t : TypeId} (h : Row w b cs t) (hne : b ≠ g) : Row (w.setRow g cs') b cs t := (setRow_other w g b cs' hne).trans h
theorem bSetRow {B : Nat} {a w : World} (h : Below B a w) {g : Nat} (hg : B ≤ g) (cs : Array Value) : Below B a (w.setRow g cs) :=
  ⟨h.os, h.tape, h.output, by rw [size_setRow]; exact h.size, fun k hk => (setRow_other w g k cs (by omega)).trans (h.block k hk)⟩
theorem sizeU8 : (Try.prog.info? 5).map (·.size) = some 1 := by kernel_rfl
abbrev z8 : Array Value := #[.int .u8 0, .int .u8 0, .int .u8 0, .int .u8 0, .int .u8 0, .int .u8 0, .int .u8 0, .int .u8 0]
theorem startV_w {h : List Nat} (H : Obol.W32 8 h) (count : Nat) (last : Bool) : Obol.W32 16 (Obol.startV h count last) := by
  have h0 := app_w H first_w
  have h1 := h0.set 12 _ (Obol.xor_lt (h0.lt 12) (Nat.mod_lt count (by decide : 4294967296 > 0)))
  have h2 := h1.set 13 _ (Obol.xor_lt (h1.lt 13) (Nat.mod_lt (count / 4294967296) (by decide : 4294967296 > 0)))
  unfold Obol.startV Obol.last14
  cases last
  · exact h2
  · exact h2.set 14 _ (Obol.xor_lt (h2.lt 14) (by decide : 4294967295 < 4294967296))
theorem cols_w (M : List Nat) (i : Nat) : ∀ (k : Nat) (V : List Nat), Obol.W32 16 V → Obol.W32 16 (Obol.cols M i k V)
  | 0, _, h => h
  | k + 1, V, h => mixL_w (cols_w M i k V h) _ _ _ _ _ _
theorem dias_w (M : List Nat) (i : Nat) : ∀ (k : Nat) (V : List Nat), Obol.W32 16 V → Obol.W32 16 (Obol.dias M i k V)
  | 0, _, h => h
  | k + 1, V, h => mixL_w (dias_w M i k V h) _ _ _ _ _ _
theorem rnds_w (M : List Nat) : ∀ (i : Nat) (V : List Nat), Obol.W32 16 V → Obol.W32 16 (Obol.rnds M i V)
  | 0, _, h => h
  | i + 1, V, h => dias_w M i 4 _ (cols_w M i 4 _ (rnds_w M i V h))
theorem endV_w {h v : List Nat} (H : Obol.W32 8 h) (HV : Obol.W32 16 v) : ∀ i : Nat, Obol.W32 8 (Obol.endV h v i h)
  | 0 => H
  | i + 1 => (endV_w H HV i).set _ _ (Obol.xor_lt (H.lt _) (Obol.xor_lt (HV.lt _) (HV.lt _)))
theorem pressL_w {h : List Nat} (H : Obol.W32 8 h) (m : List Nat) (count : Nat) (last : Bool) : Obol.W32 8 (Obol.pressL h m count last) := endV_w H (rnds_w m 10 _ (startV_w H count last)) 8
theorem initH_w {p : List Nat} (h : ∀ i, p.getD i 0 < 256) : Obol.W32 8 (Obol.initH p) :=
  ((first_w.set 0 _ (by decide)).set 6 _ (Obol.xor_lt (by decide) (Obol.wordAt_lt p h 0))).set 7 _ (Obol.xor_lt (by decide) (Obol.wordAt_lt p h 4))
theorem stH_w {p : List Nat} (h : ∀ i, p.getD i 0 < 256) (b : List Nat) : ∀ j, Obol.W32 8 (Obol.stH p b j)
  | 0 => initH_w h
  | j + 1 => pressL_w (stH_w h b j) _ _ _

/-- What is left of the bytes. -/
structure SlI (base : Nat) (w : World) (a : Option Addr) (c : Nat) (R : List Nat) : Prop where
  le : R.length ≤ c
  cap : c ≤ 9223372036854775807
  no : a = none → R.length = 0 ∧ c = 0
  bl : 0 < R.length → ∃ b o, a = some ⟨b, o, none⟩ ∧ b < base ∧ BL w b o R
theorem SlI.below {base : Nat} {w w' : World} {a : Option Addr} {c : Nat} {R : List Nat} (h : SlI base w a c R) (hb : Below base w w') : SlI base w' a c R :=
  ⟨h.le, h.cap, h.no, fun h0 => by
    obtain ⟨b, o, h1, h2, h3⟩ := h.bl h0
    exact ⟨b, o, h1, h2, h3.below hb h2⟩⟩
def BlkI (len j : Nat) (fl : Bool) : Prop := fl = decide (0 < j ∧ len ≤ 64 * j) ∧ (j = 0 ∨ j = 1 ∨ 64 * (j - 1) < len)
def slLen : Value → Nat
  | .slice _ n _ => n
  | _ => 0
def flag : Value → Nat
  | .bool true => 0
  | _ => 1
abbrev z64 : Array Value := #[.int .u8 0, .int .u8 0, .int .u8 0, .int .u8 0, .int .u8 0, .int .u8 0, .int .u8 0, .int .u8 0, .int .u8 0, .int .u8 0, .int .u8 0, .int .u8 0, .int .u8 0, .int .u8 0, .int .u8 0, .int .u8 0, .int .u8 0, .int .u8 0, .int .u8 0, .int .u8 0, .int .u8 0, .int .u8 0, .int .u8 0, .int .u8 0, .int .u8 0, .int .u8 0, .int .u8 0, .int .u8 0, .int .u8 0, .int .u8 0, .int .u8 0, .int .u8 0, .int .u8 0, .int .u8 0, .int .u8 0, .int .u8 0, .int .u8 0, .int .u8 0, .int .u8 0, .int .u8 0, .int .u8 0, .int .u8 0, .int .u8 0, .int .u8 0, .int .u8 0, .int .u8 0, .int .u8 0, .int .u8 0, .int .u8 0, .int .u8 0, .int .u8 0, .int .u8 0, .int .u8 0, .int .u8 0, .int .u8 0, .int .u8 0, .int .u8 0, .int .u8 0, .int .u8 0, .int .u8 0, .int .u8 0, .int .u8 0, .int .u8 0, .int .u8 0]
theorem z64_eq : u8s (zs 64) = z64 := rfl
theorem addP (b o i : Nat) : (⟨b, o, none⟩ : Addr).add i = ⟨b, o + i, none⟩ := by unfold Addr.add; split <;> simp_all
theorem slice_rest {P : Program} (t e : TypeId) (ht : P.underlying t = some (.slice e)) (he : (P.info? e).map (fun i => (i.zero, i.size, i.bytes)) = some (some (.int .u8 0), 1, 1)) (b o len c n : Nat) (h1 : n ≤ len) (_ : len ≤ c) (W : World) :
    (Instr.slice t (.slice (some ⟨b, o, none⟩) len c) (some (.int .i64 (n : Int))) none none).run P W = .ok (.slice (if c = n then some ⟨b, o, none⟩ else some ⟨b, o + n, none⟩) (len - n) (c - n)) W := by
  have e2 : P.elem t = e := by simp [Program.elem, ht]
  obtain ⟨i, hi, _, hs, _⟩ := info_parts he
  rw [run_slice_l W t _ _ _ (by rw [e2]; exact ht) .i64 n (by omega) (by omega), e2]
  simp [Go.sizeOf, typeInfo, hi, hs, Result.andThen, sliced]
  split
  · rfl
  · rw [addP]
theorem blockL_lt {n : Nat} {L : List Nat} (H : B8 n L) (j i : Nat) : (Obol.blockL L j).getD i 0 < 256 := by
  by_cases hi : i < 64
  · rw [Obol.blockL_get _ _ _ hi]; exact H.lt _
  · rw [List.getD_eq_getElem?_getD, List.getElem?_eq_none (by rw [Obol.blockL_len]; omega)]
    decide
theorem wordsB_len : ∀ l : List Nat, (Obol.wordsB l).length = 4 * l.length
  | [] => rfl
  | x :: l => by
    have := wordsB_len l
    unfold Obol.wordsB at *
    rw [List.flatMap_cons, List.length_append, this, List.length_cons]
    simp [Obol.bytes4]
    omega
theorem wordsB_take {l : List Nat} {i : Nat} (hi : i < l.length) : Obol.wordsB (l.take (i + 1)) = Obol.wordsB (l.take i) ++ Obol.bytes4 (l.getD i 0) := by
  unfold Obol.wordsB
  rw [List.take_add_one, List.getElem?_eq_getElem hi, List.flatMap_append, List.getD_eq_getElem?_getD, List.getElem?_eq_getElem hi]
  simp
theorem slice_zero {P : Program} (t e : TypeId) (ht : P.underlying t = some (.slice e)) (he : (P.info? e).map (fun i => (i.zero, i.size, i.bytes)) = some (some (.int .u8 0), 1, 1)) (ao : Option Addr) (c : Nat) :
    ∃ a2, (a2 = none → ao = none) ∧ ∀ W : World, (Instr.slice t (.slice ao 0 c) (some (.int .i64 0)) none none).run P W = .ok (.slice a2 0 c) W := by
  have e2 : P.elem t = e := by simp [Program.elem, ht]
  obtain ⟨i, hi, _, hs, _⟩ := info_parts he
  refine ⟨if c = 0 then ao else ao.map (·.add 0), (fun h => by split at h <;> simp_all), fun W => ?_⟩
  rw [run_slice_l W t _ _ _ (by rw [e2]; exact ht) .i64 0 (by omega) (by omega), e2]
  simp [Go.sizeOf, typeInfo, hi, hs, Result.andThen, sliced]
theorem block_nil (L : List Nat) (j : Nat) (h : L.length ≤ 64 * j) : Obol.blockL L j = zs 64 := by
  refine List.ext_getElem (by rw [Obol.blockL_len]; simp) fun i h1 h2 => ?_
  rw [Obol.blockL_len] at h1
  have := Obol.blockL_get L j i h1
  rw [List.getD_eq_getElem?_getD, List.getElem?_eq_getElem (by rw [Obol.blockL_len]; exact h1), List.getD_eq_getElem?_getD, List.getElem?_eq_none (by omega)] at this
  simpa using this

end Go.Proofs.Ytkfimfjjmdjbdaa
/- Bytes as strings. -/
namespace Go.Proofs.Ytkfimfjjmdjbdaa
open Go.RowKit

noncomputable def strB (L : List Nat) : ByteArray := strOfNums (L.map fun (n : Nat) => (n : Int))
theorem conv8 {w : World} {b o cap n : Nat} {L : List Nat} (h : BL w b o L) (hn : L.length = n) :
    (convert 26 9 (.slice (some ⟨b, o, none⟩) n cap)).run Try.prog w = .ok (.string (strB L)) w :=
  run_convert_bytes_arg (P := Try.prog) w 26 5 Try.underlying26 Try.underlying5 b o n cap (L.map fun (n : Nat) => (n : Int)) (by simp [hn])
    (fun i hi => by
      rw [h i (by omega), List.getD_eq_getElem?_getD, List.getD_eq_getElem?_getD, List.getElem?_map]
      cases L[i]? <;> rfl) 9 Try.underlying9
theorem conv0 (w : World) (ao : Option Addr) (c : Nat) :
    (convert 26 9 (.slice ao 0 c)).run Try.prog w = .ok (.string (strB [])) w := by
  cases ao with
  | none => exact run_convert_bytes_nil w 26 5 Try.underlying26 Try.underlying5 0 c 9 Try.underlying9
  | some ad =>
    rw [run_convert_bytes_string w 26 9 5 _ 0 c Try.underlying26 Try.underlying5 Try.underlying9,
      run_bytesToString w ad 0 c [] (run_loadCells_list w ad [] (fun j v h => by cases h))]
    rfl
theorem convAny {w : World} {ao : Option Addr} {len cap : Nat} {L : List Nat} (hn : L.length = len) (h : 0 < len → ∃ b o, ao = some ⟨b, o, none⟩ ∧ BL w b o L) :
    (convert 26 9 (.slice ao len cap)).run Try.prog w = .ok (.string (strB L)) w := by
  by_cases h0 : 0 < len
  · obtain ⟨b, o, rfl, hb⟩ := h h0
    exact conv8 hb hn
  · obtain rfl : len = 0 := by omega
    obtain rfl : L = [] := List.length_eq_zero_iff.1 hn
    exact conv0 w ao cap

end Go.Proofs.Ytkfimfjjmdjbdaa
/- Bytes copied into a slice of the call's own, and written there. -/
namespace Go.Proofs.Ytkfimfjjmdjbdaa
open Go.RowKit

theorem addB (b o j : Nat) : (⟨b, o, none⟩ : Addr).add j = ⟨b, o + j, none⟩ := by unfold Addr.add; split <;> simp_all
theorem own_set {w : World} {base g n cap : Nat} {L : List Nat} (h : OwnB w base (.slice (some ⟨g, 0, none⟩) n cap) L) (hn : L.length = n) (j Z : Nat) {z : Int} (hz : z = (Z : Int)) :
    OwnB (w.setCell ⟨g, j, none⟩ (.int .u8 z)) base (.slice (some ⟨g, 0, none⟩) n cap) (L.set j Z) := by
  subst hn hz
  have h2 := (World.ownsRow.stored h j (.int .u8 ((Z : Nat) : Int))).1
  unfold OwnB
  rw [List.length_set, U8, List.map_set]
  exact h2
theorem own_cell {w : World} {base g n cap : Nat} {L : List Nat} (h : OwnB w base (.slice (some ⟨g, 0, none⟩) n cap) L) (hn : L.length = n) {i : Int} (h0 : 0 ≤ i) (h1 : i < n) :
    w.cell? ⟨g, i.toNat, none⟩ = some (.int .u8 ((L.getD i.toNat 0 : Nat) : Int)) := by
  subst hn
  have := h.bl i.toNat (by omega)
  rwa [Nat.zero_add] at this
theorem own_blz {w : World} {base g n cap : Nat} {L : List Nat} (h : OwnB w base (.slice (some ⟨g, 0, none⟩) n cap) L) (hn : L.length = n) : BL w g 0 L := by
  subst hn
  exact h.bl
theorem own_free {w : World} {base g n cap : Nat} {L : List Nat} (h : OwnB w base (.slice (some ⟨g, 0, none⟩) n cap) L) (hn : L.length = n) (j : Nat) : w.frozen? ⟨g, j, none⟩ = false := by
  subst hn
  exact World.ownsRow.frozenAt h j
theorem own_ge {w : World} {base g n cap : Nat} {L : List Nat} (h : OwnB w base (.slice (some ⟨g, 0, none⟩) n cap) L) : base ≤ g := (World.ownsRow.lt h g rfl).1
/-- An empty slice of the call's own, just made. -/
theorem own_empty (w : World) (base : Nat) (hb : base ≤ w.heap.size) : OwnB (w.alloc (.cells #[] 5)) base (.slice (some ⟨w.heap.size, 0, none⟩) 0 0) [] :=
  World.ownsRow_made w #[] 0 hb (by decide) rfl
/-- What is owned again, as a slice whose shape is known. -/
theorem own_shape {w : World} {base : Nat} {v : Value} {L : List Nat} (h : OwnB w base v L) (hv : v ≠ .slice none 0 0) : ∃ g cap, v = .slice (some ⟨g, 0, none⟩) L.length cap := by
  rcases h.2 with ⟨rfl, _⟩ | ⟨g, cap, cur, rfl, _⟩
  · exact absurd rfl hv
  · exact ⟨g, cap, rfl⟩

theorem getD_put (L : List Nat) (i j z : Nat) (hi : i < L.length) : (L.set i z).getD j 0 = if i = j then z else L.getD j 0 := by
  rw [List.getD_eq_getElem?_getD, List.getElem?_set, List.getD_eq_getElem?_getD]
  split
  · rename_i h
    first | rfl | (rw [if_pos (by omega)]; rfl)
  · rfl
theorem own_cap {w : World} {base g n cap : Nat} {L : List Nat} (h : OwnB w base (.slice (some ⟨g, 0, none⟩) n cap) L) : L.length ≤ cap ∧ cap ≤ 9223372036854775807 := by
  rcases h.2 with ⟨h, _⟩ | ⟨g', cap', cur, h1, _, _, h4, h5, _⟩
  · cases h
  · simp only [Value.slice.injEq] at h1
    obtain ⟨_, _, rfl⟩ := h1
    exact ⟨h4, by unfold maxLen at h5; omega⟩
theorem own_other {w : World} {base g n cap b o : Nat} {u : Value} {L : List Nat} (h : OwnB w base (.slice (some ⟨g, 0, none⟩) n cap) L) (hne : g ≠ b) : OwnB (w.setCell ⟨b, o, none⟩ u) base (.slice (some ⟨g, 0, none⟩) n cap) L := by
  refine ⟨h.1, ?_⟩
  rcases h.2 with h | ⟨g', cap', cur, h1, h2, h3, h4⟩
  · exact .inl h
  · refine .inr ⟨g', cap', cur, h1, h2, ?_, h4⟩
    simp only [Value.slice.injEq, Option.some.injEq, Addr.mk.injEq, and_true] at h1
    rw [← h1.1]
    rw [← h1.1] at h3
    exact (heap_setCell_other w ⟨b, o, none⟩ g u hne).trans h3
theorem own_lt {w : World} {base g n cap : Nat} {L : List Nat} (h : OwnB w base (.slice (some ⟨g, 0, none⟩) n cap) L) : g < w.heap.size := (World.ownsRow.lt h g rfl).2
/-- What is known behind the copy. -/
structure Cp (w w1 w2 : World) (g cap2 len : Nat) (L : List Nat) : Prop where
  own : OwnB w2 w1.heap.size (.slice (some ⟨g, 0, none⟩) len cap2) L
  bel : Below w1.heap.size w1 w2

/-- A loop that adds one to each byte: what its rounds hold on to. -/
def LoI (base : Nat) (wr : World) (g cap2 len : Nat) (i : Int) : Prop := 0 ≤ i ∧ i ≤ len ∧ ∃ L', L'.length = len ∧ (∀ j, L'.getD j 0 < 256) ∧ OwnB wr base (.slice (some ⟨g, 0, none⟩) len cap2) L'
theorem LoI.step {base : Nat} {wr : World} {g cap2 len : Nat} {i : Int} (h : LoI base wr g cap2 len i) (hi : i < len) :
    ∃ v : Int, wr.cell? ⟨g, i.toNat, none⟩ = some (.int .u8 v) ∧ wr.frozen? ⟨g, i.toNat, none⟩ = false ∧ 0 ≤ v ∧ v ≤ 255 ∧ LoI base (wr.setCell ⟨g, i.toNat, none⟩ (.int .u8 ((v + 1) % 256))) g cap2 len (i + 1) := by
  obtain ⟨h0, h1, L', hl, hb, hO⟩ := h
  have hq := hb i.toNat
  refine ⟨_, own_cell hO hl h0 hi, own_free hO hl _, by omega, by omega, by omega, by omega, L'.set i.toNat ((L'.getD i.toNat 0 + 1) % 256), by rw [List.length_set]; exact hl, fun j => ?_, own_set hO hl _ _ (by omega)⟩
  rw [getD_put _ _ _ _ (by omega)]
  split
  · omega
  · exact hb j


end Go.Proofs.Ytkfimfjjmdjbdaa
/- Walks: package blake: the digest. -/
namespace Go.Proofs.Ytkfimfjjmdjbdaa
open Go.RowKit

end Go.Proofs.Ytkfimfjjmdjbdaa
/- Walks: the head of the statements of layer 5; the law BlakePerson. -/
namespace Go.Proofs.Ytkfimfjjmdjbdaa
open Go.RowKit

theorem sumL_len (p b : List Nat) (hp : ∀ i, p.getD i 0 < 256) : (Obol.sumL p b).length = 32 := by
  unfold Obol.sumL
  rw [wordsB_len, (stH_w hp b _).len]
theorem bytes4_lt (x : Nat) : ∀ y ∈ Obol.bytes4 x, y < 256 := by
  intro y hy
  simp only [Obol.bytes4, List.mem_cons, List.not_mem_nil, or_false] at hy
  omega
theorem wordsB_lt (l : List Nat) : ∀ y ∈ Obol.wordsB l, y < 256 := by
  intro y hy
  unfold Obol.wordsB at hy
  obtain ⟨x, _, h⟩ := List.mem_flatMap.1 hy
  exact bytes4_lt x y h
theorem sumL_b8 (p b : List Nat) (hp : ∀ i, p.getD i 0 < 256) : B8 32 (Obol.sumL p b) := by
  have h := B8.of (wordsB_lt (Obol.stH p b (Obol.nBlocks b.length)))
  have e := sumL_len p b hp
  unfold Obol.sumL at *
  exact ⟨e, h.lt⟩

/-- The world behind a conversion of a literal: the row's mark. -/
theorem conv_lit (W : World) (g n : Nat) (cs : Array Value) (R : Row W g cs 5) :
    (convert 26 26 (.slice (some ⟨g, 0, none⟩) n n)).run Try.prog W = .ok (.slice (some ⟨g, 0, none⟩) n n) (W.freeze ⟨g, cs.size, none⟩ 1) := by
  have hsh : W.shape? g = some (5, cs.size) := by
    have h : W.heap[g]? = some (.cells cs 5 (0, 0)) := R
    simp [World.shape?, h]
  simp [convert, run_underlying Try.underlying26, run_underlying Try.underlying5, markStringish, hsh, Result.andThen]
theorem bFreeze {B : Nat} {a w : World} (h : Below B a w) {g : Nat} (hg : B ≤ g) (o n : Nat) : Below B a (w.freeze ⟨g, o, none⟩ n) := by
  unfold World.freeze
  split
  · exact h
  · exact ⟨h.os, h.tape, h.output, by simpa using h.size, fun k hk => by
      rw [← h.block k hk]
      simp only [Array.getElem?_modify]
      rw [if_neg (by omega)]⟩
theorem cell_freeze (w : World) (a p : Addr) (n : Nat) : (w.freeze a n).cell? p = w.cell? p := by
  unfold World.freeze
  split
  · rfl
  · simp only [World.cell?, Array.getElem?_modify]
    by_cases hb : a.block = p.block
    · rw [if_pos hb]
      cases h : w.heap[p.block]? with
      | none => rfl
      | some o => cases o <;> rfl
    · rw [if_neg hb]
theorem size_freeze (w : World) (a : Addr) (n : Nat) : (w.freeze a n).heap.size = w.heap.size := by
  unfold World.freeze
  split
  · rfl
  · simp
abbrev abc : Array Value := #[.int .u8 97, .int .u8 98, .int .u8 99]
theorem strL_nil : strL { data := #[] } = [] := rfl

end Go.Proofs.Ytkfimfjjmdjbdaa
