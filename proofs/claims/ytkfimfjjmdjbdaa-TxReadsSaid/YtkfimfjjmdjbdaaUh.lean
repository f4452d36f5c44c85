import Derived.Test.YtkfimfjjmdjbdaaUd
import Derived.Test.YtkfimfjjmdjbdaaUg
import Derived.Lib.AppendZeros
import Derived.Test.YtkfimfjjmdjbdaaUa
import Derived.Test.YtkfimfjjmdjbdaaUb
import Derived.Deep.CutBlock
import Derived.Deep.DeepCutAuto
set_option linter.unusedVariables false
set_option linter.unusedSimpArgs false
set_option linter.unusedSectionVars false
/- Walks: package curve: points to bytes. -/
namespace Obol
def ptL (i : Bool) (x y : Nat) : List Nat := if i = true then [0] else 1 :: (be8 x ++ be8 y)
theorem be16_take (x y j : Nat) (hj : j < 8) (b : Nat) (hb : b < 2) (k : Nat) (hk : k = if b = 0 then x else y) : 1 :: (be8 x ++ be8 y).take (8 * b + (j + 1)) = (1 :: (be8 x ++ be8 y).take (8 * b + j)) ++ [k / 2 ^ (56 - 8 * j) % 256] := by
  subst hk
  rw [List.cons_append, ← Nat.add_assoc, List.take_add_one]
  congr 2
  match b, hb, j, hj with
  | 0, _, 0, _ => simp [be8]
  | 0, _, 1, _ => simp [be8]
  | 0, _, 2, _ => simp [be8]
  | 0, _, 3, _ => simp [be8]
  | 0, _, 4, _ => simp [be8]
  | 0, _, 5, _ => simp [be8]
  | 0, _, 6, _ => simp [be8]
  | 0, _, 7, _ => simp [be8]
  | 1, _, 0, _ => simp [be8]
  | 1, _, 1, _ => simp [be8]
  | 1, _, 2, _ => simp [be8]
  | 1, _, 3, _ => simp [be8]
  | 1, _, 4, _ => simp [be8]
  | 1, _, 5, _ => simp [be8]
  | 1, _, 6, _ => simp [be8]
  | 1, _, 7, _ => simp [be8]
end Obol
namespace Go.Proofs.Ytkfimfjjmdjbdaa
open Go.RowKit

theorem own_fresh (W : World) (base : Nat) (L : List Nat) (hb : base ≤ W.heap.size) (hl : L.length ≤ 1000000) : OwnB (W.alloc (.cells (u8s L) 5)) base (.slice (some ⟨W.heap.size, 0, none⟩) L.length L.length) L :=
  ⟨by simp, .inr ⟨W.heap.size, L.length, u8s L, rfl, hb, Row.new _ _ _, Nat.le_refl _, by unfold maxLen; omega, by rw [u8s_size, Nat.mul_one], by unfold u8s; rw [Nat.mul_one]; exact List.take_of_length_le (by simp)⟩⟩
theorem cWriteI (X Y : Int) (hp : isPt true X Y = true) (w : World) :
    Calls Try.prog 56 #[ptV true X Y] w fun e w' => ∃ v, e = .returned (.tuple #[v, .nilIface]) ∧ OwnB w' w.heap.size v (Obol.ptL true X.toNat Y.toNat) ∧ Below w.heap.size w w' := by
  have h2 : (X == 0 && Y == 0) = true := hp
  have h1 : X = 0 ∧ Y = 0 := by simpa using h2
  have hI := Lib.hid hp
  obtain ⟨rfl, rfl⟩ := h1
  clear hp h2
  go_enter Try.func56, Try.ntmps56
  go_wp2_with (go_at_call 53; refine (cIs true 0 0 (by omega) (by omega) _).mono ?_; rintro e w1 ⟨rfl, hb⟩; rw [hI.out]; obtain ⟨hc, hf⟩ := bcell hb; have hz := hb.size; (try simp at hz))
  go_ret2
  have B : Below w.heap.size w (w1.alloc (.cells #[.int .u8 0] 5)) := by repeat (first | exact Below.refl _ _ | assumption | apply bDrewN | apply bDrew | apply bAlloc | refine bSet ?_ (by omega) | refine bThen ?_ (by assumption) (by simp <;> omega))
  exact ⟨_, rfl, own_fresh w1 _ [0] (by omega) (by decide), B⟩

def CwI (X Y : Int) (bn base : Nat) (w : World) (v : Value) (L : List Nat) (wr : World) : Prop := OwnB wr base v L ∧ HR w wr [(bn, #[.int .u64 X, .int .u64 Y], 22)] ∧ base = w.heap.size
set_option maxRecDepth 8000 in
set_option maxHeartbeats 4000000 in
theorem cWriteP (X Y : Int) (hX : 0 ≤ X) (hY : 0 ≤ Y) (hX1 : X ≤ 18446744073709551615) (hY1 : Y ≤ 18446744073709551615) (hp : isPt false X Y = true) (w : World) :
    Calls Try.prog 56 #[ptV false X Y] w fun e w' => ∃ v, e = .returned (.tuple #[v, .nilIface]) ∧ OwnB w' w.heap.size v (Obol.ptL false X.toNat Y.toNat) ∧ Below w.heap.size w w' := by
  obtain ⟨ti, hti, htz, hts, htb⟩ := info_parts info8
  have hI := Lib.hid hp
  clear hp
  go_enter Try.func56, Try.ntmps56
  go_wp2_with fail
  refine (cIs false X Y hX hY _).mono ?_
  rintro e w1 ⟨rfl, hb⟩
  rw [hI.out]
  have H1 := Lib.hid (((HR.refl w).new #[.bool false, .int .u64 X, .int .u64 Y] 31).next hb)
  clear hb
  have c0 := H1.out.cell (b := w.heap.size) (cs := #[.bool false, .int .u64 X, .int .u64 Y]) (t := 31) (by simp) 0 rfl
  go_upto_region 6 with fail
  have hw1 := H1.out.2.size
  have O2 : Hid (OwnB (w1.alloc (.cells #[.int .u8 1] 5)) w.heap.size (.slice (some ⟨w1.heap.size, 0, none⟩) 1 1) [1]) := Lib.hid (own_fresh w1 w.heap.size [1] hw1 (by decide))
  have H2 := Lib.hid (H1.out.alloc (.cells #[.int .u8 1] 5))
  clear c0 H1
  generalize w1.alloc (.cells #[.int .u8 1] 5) = w2 at O2 H2 ⊢
  generalize w1.heap.size = g1 at O2 ⊢
  have c1 := H2.out.cell (b := w.heap.size) (cs := #[.bool false, .int .u64 X, .int .u64 Y]) (t := 31) (by simp) 1 rfl
  have c2 := H2.out.cell (b := w.heap.size) (cs := #[.bool false, .int .u64 X, .int .u64 Y]) (t := 31) (by simp) 2 rfl
  go_upto_region 7 with fail
  have H3n := (HR.sub (qs := []) H2.out (by simp)).new #[.int .u64 X, .int .u64 Y] 22
  have O3 := O2.out.alloc (.cells #[.int .u64 X, .int .u64 Y] 22)
  have hn2 := H2.out.2.size
  clear c1 c2 O2 H2
  generalize w2.alloc (.cells #[.int .u64 X, .int .u64 Y] 22) = w3 at O3 H3n ⊢
  generalize w2.heap.size = bn at H3n hn2 ⊢
  have I0 : Hid (CwI X Y bn w.heap.size w (.slice (some ⟨g1, 0, none⟩) 1 1) (1 :: (Obol.be8 X.toNat ++ Obol.be8 Y.toNat).take (8 * 0 + 0)) w3) := Lib.hid ⟨O3, H3n, rfl⟩
  clear O3 H3n hw1
  go_loopw [4, 24] (fun q1 q2 wr => ∃ j : Nat, j ≤ 2 ∧ q2 = .int .i64 (j : Int) ∧ Hid (CwI X Y bn w.heap.size w q1 (1 :: (Obol.be8 X.toNat ++ Obol.be8 Y.toNat).take (8 * j + 0)) wr)) (fun _ q2 _ => (2 - intOf q2).toNat)
  case atStart => exact ⟨0, by omega, rfl, I0⟩
  case round =>
    clear I0
    obtain ⟨j, hj, rfl, HI⟩ := hrel
    by_cases hj2 : j < 2
    · have hdj : decide ((j : Int) < 2) = true := decide_eq_true (by omega)
      obtain ⟨k, hk⟩ : ∃ k : Int, k = if j = 0 then X else Y := ⟨_, rfl⟩
      have k0 : 0 ≤ k := by rw [hk]; split <;> omega
      have k1 : k ≤ 18446744073709551615 := by rw [hk]; split <;> omega
      have hkn : Hid (k.toNat = if j = 0 then X.toNat else Y.toNat) := Lib.hid (by rw [hk]; split <;> rfl)
      have hc : wr.cell? ⟨bn, j, none⟩ = some (.int .u64 k) := HI.out.2.1.cell (b := bn) (cs := #[.int .u64 X, .int .u64 Y]) (t := 22) (by simp) j (by
        have : j = 0 ∨ j = 1 := by omega
        rcases this with rfl | rfl
        · rw [hk]; rfl
        · rw [hk]; rfl)
      replace hk := Lib.hid hk
      go_wp2_with fail
      go_loopw [4, 7] (fun q1 q2 wi => ∃ m : Nat, m ≤ 8 ∧ q2 = .int .i64 (56 - 8 * (m : Int)) ∧ Hid (CwI X Y bn w.heap.size w q1 (1 :: (Obol.be8 X.toNat ++ Obol.be8 Y.toNat).take (8 * j + m)) wi)) (fun _ q2 _ => (8 + intOf q2).toNat)
      case atStart => exact ⟨0, by omega, rfl, HI⟩
      case round =>
        clear hc HI
        obtain ⟨m, hm, rfl, HI⟩ := hrel
        by_cases hm8 : m < 8
        · obtain ⟨hO, hH, -⟩ := HI.out
          have hlen : (1 :: (Obol.be8 X.toNat ++ Obol.be8 Y.toNat).take (8 * j + m)).length = 8 * j + m + 1 := by simp [Obol.be8]; omega
          clear HI
          go_wp2_with (first
            | (at_builtin; refine wpList_append_own _ rfl _ _ 26 rfl w.heap.size 5 ti (.int .u8 0) 1 1 Try.underlying26 hti htz hts htb rfl (by decide) _ _ _ rfl (hO.alloc _) ⟨wr.heap.size, 0, none⟩ 1 1 [.int .u8 (k / 2 ^ (56 - 8 * m) % 256)] ?c0 rfl ?c1 ?c2 ?c3 ?c4 ?c5 ?_)
            | go_in)
          case c0 => rfl
          case c1 =>
            intro q u hq
            match q, hq with
            | 0, hq => simp at hq; subst hq; simp [Addr.add]
          case c2 => intro u hu; simp at hu; subst hu; rfl
          case c3 => rw [hlen]; unfold maxLen; omega
          case c4 => rw [hlen]; omega
          case c5 => have := hH.2.size; simp; omega
          · intro v' w1' hown' hgrow _
            have HI2 : Hid (CwI X Y bn w.heap.size w v' (1 :: (Obol.be8 X.toNat ++ Obol.be8 Y.toNat).take (8 * j + (m + 1))) w1') := Lib.hid (by
              have e := Obol.be16_take X.toNat Y.toNat m hm8 j hj2 k.toNat hkn.out
              have e2 : Value.int .u8 (k / 2 ^ (56 - 8 * m) % 256) = Value.int .u8 ((k.toNat / 2 ^ (56 - 8 * m) % 256 : Nat) : Int) := by
                obtain ⟨K, rfl⟩ := Int.eq_ofNat_of_zero_le k0
                simp
              refine ⟨?_, ?_, rfl⟩
              · unfold OwnB
                rw [e, List.length_append, List.length_singleton, hlen]
                rw [e2] at hown'
                simpa [U8] using hown'
              · have hrow := hO.lt
                have HB := ((Below.refl w.heap.size wr).alloc hH.2.size (.cells #[.int .u8 (k / 2 ^ (56 - 8 * m) % 256)] 5)).grown hgrow (by have := hH.2.size; simp; omega) (fun q hq => (hrow q hq).1)
                exact hH.keep ((KeepT.alloc wr _).trans (KeepT.grown (hO.alloc _) hgrow)) HB (by simp))
            clear hown' hgrow hO hH hlen
            go_wp2
            go_roundw
            case rel => exact ⟨m + 1, by omega, by simp; omega, HI2⟩
            case measure => simp [intOf]; omega
        · obtain rfl : m = 8 := by omega
          have HI2 : Hid (CwI X Y bn w.heap.size w u4 (1 :: (Obol.be8 X.toNat ++ Obol.be8 Y.toNat).take (8 * (j + 1) + 0)) wr) := HI
          clear HI
          go_wp2_with fail
          go_roundw
          case rel => exact ⟨j + 1, by omega, by simp, HI2⟩
          case measure => simp [intOf]; omega
    · obtain rfl : j = 2 := by omega
      have hE : Hid (1 :: (Obol.be8 X.toNat ++ Obol.be8 Y.toNat).take (8 * 2 + 0) = Obol.ptL false X.toNat Y.toNat) := Lib.hid (by
        rw [List.take_of_length_le (by simp [Obol.be8])]
        rfl)
      go_wp2_with fail
      go_ret2
      exact ⟨_, rfl, hE.out ▸ HI.out.1, HI.out.2.1.2⟩

end Go.Proofs.Ytkfimfjjmdjbdaa
/- Walks: package groth: a proof to bytes. -/
namespace Go.Proofs.Ytkfimfjjmdjbdaa
open Go.RowKit
set_option linter.unusedVariables false

theorem cWrite (i : Bool) (X Y : Int) (hX : 0 ≤ X) (hY : 0 ≤ Y) (hX1 : X ≤ 18446744073709551615) (hY1 : Y ≤ 18446744073709551615) (hp : isPt i X Y = true) (w : World) :
    Calls Try.prog 56 #[ptV i X Y] w fun e w' => ∃ v, e = .returned (.tuple #[v, .nilIface]) ∧ OwnB w' w.heap.size v (Obol.ptL i X.toNat Y.toNat) ∧ Below w.heap.size w w' := by
  cases i
  · exact cWriteP X Y hX hY hX1 hY1 hp w
  · exact cWriteI X Y hp w
theorem ptL_len (i : Bool) (x y : Nat) : (Obol.ptL i x y).length = (if i = true then 1 else 17) := by cases i <;> rfl
theorem ptL_pos (i : Bool) (x y : Nat) : 0 < (Obol.ptL i x y).length ∧ (Obol.ptL i x y).length ≤ 17 := by rw [ptL_len]; split <;> omega
def prL (ia : Bool) (xa ya : Int) (ib : Bool) (xb yb : Int) (ic : Bool) (xc yc : Int) : Nat → List Nat
  | 0 => []
  | 1 => Obol.ptL ia xa.toNat ya.toNat
  | 2 => Obol.ptL ia xa.toNat ya.toNat ++ Obol.ptL ib xb.toNat yb.toNat
  | _ => (Obol.ptL ia xa.toNat ya.toNat ++ Obol.ptL ib xb.toNat yb.toNat) ++ Obol.ptL ic xc.toNat yc.toNat
theorem prL_len (ia : Bool) (xa ya : Int) (ib : Bool) (xb yb : Int) (ic : Bool) (xc yc : Int) (j : Nat) : (prL ia xa ya ib xb yb ic xc yc j).length ≤ 51 := by
  have ha := ptL_pos ia xa.toNat ya.toNat
  have hb := ptL_pos ib xb.toNat yb.toNat
  have hc := ptL_pos ic xc.toNat yc.toNat
  match j with
  | 0 => simp [prL]
  | 1 => simp only [prL]; omega
  | 2 => simp only [prL, List.length_append]; omega
  | j + 3 => simp only [prL, List.length_append]; omega
abbrev prV (ia : Bool) (xa ya : Int) (ib : Bool) (xb yb : Int) (ic : Bool) (xc yc : Int) : Value := .agg #[.bool ia, .int .u64 xa, .int .u64 ya, .bool ib, .int .u64 xb, .int .u64 yb, .bool ic, .int .u64 xc, .int .u64 yc]
set_option maxRecDepth 8000 in
set_option maxHeartbeats 8000000 in
theorem gWrite (ia : Bool) (xa ya : Int) (ib : Bool) (xb yb : Int) (ic : Bool) (xc yc : Int) (xa0 : 0 ≤ xa) (ya0 : 0 ≤ ya) (xb0 : 0 ≤ xb) (yb0 : 0 ≤ yb) (xc0 : 0 ≤ xc) (yc0 : 0 ≤ yc) (xa1 : xa ≤ 18446744073709551615) (ya1 : ya ≤ 18446744073709551615) (xb1 : xb ≤ 18446744073709551615) (yb1 : yb ≤ 18446744073709551615) (xc1 : xc ≤ 18446744073709551615) (yc1 : yc ≤ 18446744073709551615)
    (pa : isPt ia xa ya = true) (pb : isPt ib xb yb = true) (pc : isPt ic xc yc = true) (w : World) :
    Calls Try.prog 30 #[prV ia xa ya ib xb yb ic xc yc] w fun e w' => ∃ v, e = .returned (.tuple #[v, .nilIface]) ∧ OwnB w' w.heap.size v (prL ia xa ya ib xb yb ic xc yc 3) ∧ Below w.heap.size w w' := by
  have ca := Lib.hid (fun w => cWrite ia xa ya xa0 ya0 xa1 ya1 pa w)
  have cb := Lib.hid (fun w => cWrite ib xb yb xb0 yb0 xb1 yb1 pb w)
  have cc := Lib.hid (fun w => cWrite ic xc yc xc0 yc0 xc1 yc1 pc w)
  clear pa pb pc
  go_enter Try.func30, Try.ntmps30
  go_upto_region 3 with fail
  have H2 := ((HR.refl w).new #[.bool ia, .int .u64 xa, .int .u64 ya, .bool ib, .int .u64 xb, .int .u64 yb, .bool ic, .int .u64 xc, .int .u64 yc] 33).new #[.bool ia, .int .u64 xa, .int .u64 ya, .bool ib, .int .u64 xb, .int .u64 yb, .bool ic, .int .u64 xc, .int .u64 yc] 31
  simp only [World.size_alloc] at H2
  have hbw := H2.2.size
  generalize (w.alloc (.cells #[.bool ia, .int .u64 xa, .int .u64 ya, .bool ib, .int .u64 xb, .int .u64 yb, .bool ic, .int .u64 xc, .int .u64 yc] 33)).alloc (.cells #[.bool ia, .int .u64 xa, .int .u64 ya, .bool ib, .int .u64 xb, .int .u64 yb, .bool ic, .int .u64 xc, .int .u64 yc] 31) = w2 at H2 hbw ⊢
  generalize hbs0 : w.heap.size + 1 = bs at H2 ⊢
  have hbs : Hid (w.heap.size < bs) := Lib.hid (by omega)
  have H3 : Hid (HR w w2 [(bs, #[.bool ia, .int .u64 xa, .int .u64 ya, .bool ib, .int .u64 xb, .int .u64 yb, .bool ic, .int .u64 xc, .int .u64 yc], 31)]) := Lib.hid (HR.sub (qs := [(bs, #[.bool ia, .int .u64 xa, .int .u64 ya, .bool ib, .int .u64 xb, .int .u64 yb, .bool ic, .int .u64 xc, .int .u64 yc], 31)]) H2 (by simp))
  clear hbs0 H2 hbw
  go_loopw [4, 17] (fun q1 q2 wr => ∃ j : Nat, j ≤ 3 ∧ q2 = .int .i64 (j : Int) ∧ Hid (OwnB wr w.heap.size q1 (prL ia xa ya ib xb yb ic xc yc j) ∧ HR w wr [(bs, #[.bool ia, .int .u64 xa, .int .u64 ya, .bool ib, .int .u64 xb, .int .u64 yb, .bool ic, .int .u64 xc, .int .u64 yc], 31)])) (fun _ q2 _ => (3 - intOf q2).toNat)
  case atStart => exact ⟨0, by omega, rfl, Lib.hid ⟨OwnB.nil _ _, H3.out⟩⟩
  case round =>
    clear H3
    obtain ⟨j, hj, rfl, HI⟩ := hrel
    rcases (by omega : j = 0 ∨ j = 1 ∨ j = 2 ∨ j = 3) with rfl | rfl | rfl | rfl
    · have H0 := Lib.hid HI.out.2
      have O0 := Lib.hid HI.out.1
      clear HI
      have c_bs_0 := H0.out.cell (b := bs) (cs := #[.bool ia, .int .u64 xa, .int .u64 ya, .bool ib, .int .u64 xb, .int .u64 yb, .bool ic, .int .u64 xc, .int .u64 yc]) (t := 31) (by simp) 0 rfl
      have c_bs_1 := H0.out.cell (b := bs) (cs := #[.bool ia, .int .u64 xa, .int .u64 ya, .bool ib, .int .u64 xb, .int .u64 yb, .bool ic, .int .u64 xc, .int .u64 yc]) (t := 31) (by simp) 1 rfl
      have c_bs_2 := H0.out.cell (b := bs) (cs := #[.bool ia, .int .u64 xa, .int .u64 ya, .bool ib, .int .u64 xb, .int .u64 yb, .bool ic, .int .u64 xc, .int .u64 yc]) (t := 31) (by simp) 2 rfl
      have c_bs_3 := H0.out.cell (b := bs) (cs := #[.bool ia, .int .u64 xa, .int .u64 ya, .bool ib, .int .u64 xb, .int .u64 yb, .bool ic, .int .u64 xc, .int .u64 yc]) (t := 31) (by simp) 3 rfl
      have c_bs_4 := H0.out.cell (b := bs) (cs := #[.bool ia, .int .u64 xa, .int .u64 ya, .bool ib, .int .u64 xb, .int .u64 yb, .bool ic, .int .u64 xc, .int .u64 yc]) (t := 31) (by simp) 4 rfl
      have c_bs_5 := H0.out.cell (b := bs) (cs := #[.bool ia, .int .u64 xa, .int .u64 ya, .bool ib, .int .u64 xb, .int .u64 yb, .bool ic, .int .u64 xc, .int .u64 yc]) (t := 31) (by simp) 5 rfl
      have c_bs_6 := H0.out.cell (b := bs) (cs := #[.bool ia, .int .u64 xa, .int .u64 ya, .bool ib, .int .u64 xb, .int .u64 yb, .bool ic, .int .u64 xc, .int .u64 yc]) (t := 31) (by simp) 6 rfl
      have c_bs_7 := H0.out.cell (b := bs) (cs := #[.bool ia, .int .u64 xa, .int .u64 ya, .bool ib, .int .u64 xb, .int .u64 yb, .bool ic, .int .u64 xc, .int .u64 yc]) (t := 31) (by simp) 7 rfl
      have c_bs_8 := H0.out.cell (b := bs) (cs := #[.bool ia, .int .u64 xa, .int .u64 ya, .bool ib, .int .u64 xb, .int .u64 yb, .bool ic, .int .u64 xc, .int .u64 yc]) (t := 31) (by simp) 8 rfl
      go_upto_region 5 with fail
      have H1 := H0.out.new #[.bool ia, .int .u64 xa, .int .u64 ya] 31
      have O1 := O0.out.alloc (.cells #[.bool ia, .int .u64 xa, .int .u64 ya] 31)
      clear c_bs_0 c_bs_1 c_bs_2 c_bs_3 c_bs_4 c_bs_5 c_bs_6 c_bs_7 c_bs_8
      clear H0 O0
      generalize wr.alloc (.cells #[.bool ia, .int .u64 xa, .int .u64 ya] 31) = w3 at H1 O1 ⊢
      generalize wr.heap.size = b6 at H1 ⊢
      have d0 := H1.cell (b := b6) (cs := #[.bool ia, .int .u64 xa, .int .u64 ya]) (t := 31) (by simp) 0 rfl
      have d1 := H1.cell (b := b6) (cs := #[.bool ia, .int .u64 xa, .int .u64 ya]) (t := 31) (by simp) 1 rfl
      have d2 := H1.cell (b := b6) (cs := #[.bool ia, .int .u64 xa, .int .u64 ya]) (t := 31) (by simp) 2 rfl
      replace H1 := Lib.hid H1
      replace O1 := Lib.hid O1
      go_wp2_with fail
      refine (ca.out _).mono ?_
      rintro e w4 ⟨v, rfl, hO, hb⟩
      have H4 := (HR.sub (qs := [(bs, #[.bool ia, .int .u64 xa, .int .u64 ya, .bool ib, .int .u64 xb, .int .u64 yb, .bool ic, .int .u64 xc, .int .u64 yc], 31)]) H1.out (by simp)).next hb
      have O4 := OwnB.below O1.out hb
      have hp := ptL_pos ia xa.toNat ya.toNat
      have hlen := prL_len ia xa ya ib xb yb ic xc yc 0
      obtain ⟨g, cap, cur, rfl, hge, hr, hle, hm, hsz, htk⟩ := hO.size hp.1
      have hbl := hO.bl
      obtain ⟨v2, w5, hap, hO2, hb2, hg2, -⟩ := append_ownB w4 w.heap.size _ (prL ia xa ya ib xb yb ic xc yc 0) (Obol.ptL ia xa.toNat ya.toNat) O4 ⟨g, 0, none⟩ _ cap rfl (fun k hk => by rw [addB]; exact hbl k hk) (by omega) H4.2.size
      have HN : Hid (OwnB w5 w.heap.size v2 (prL ia xa ya ib xb yb ic xc yc (0 + 1)) ∧ HR w w5 [(bs, #[.bool ia, .int .u64 xa, .int .u64 ya, .bool ib, .int .u64 xb, .int .u64 yb, .bool ic, .int .u64 xc, .int .u64 yc], 31)]) := Lib.hid ⟨hO2, H4.keep (KeepT.grown O4 hg2) hb2 (by simp)⟩
      clear d0 d1 d2 H1 O1 hb H4 O4 hO hge hr hle hm hsz htk hbl hO2 hb2 hg2 hp hlen
      go_wp2_with (at_builtin; refine wpList_appended rfl _ _ _ _ rfl _ _ _ rfl rfl hap ?_)
      go_roundw
      case rel => exact ⟨0 + 1, by omega, rfl, HN⟩
      case measure => simp [intOf]
    · have H0 := Lib.hid HI.out.2
      have O0 := Lib.hid HI.out.1
      clear HI
      have c_bs_0 := H0.out.cell (b := bs) (cs := #[.bool ia, .int .u64 xa, .int .u64 ya, .bool ib, .int .u64 xb, .int .u64 yb, .bool ic, .int .u64 xc, .int .u64 yc]) (t := 31) (by simp) 0 rfl
      have c_bs_1 := H0.out.cell (b := bs) (cs := #[.bool ia, .int .u64 xa, .int .u64 ya, .bool ib, .int .u64 xb, .int .u64 yb, .bool ic, .int .u64 xc, .int .u64 yc]) (t := 31) (by simp) 1 rfl
      have c_bs_2 := H0.out.cell (b := bs) (cs := #[.bool ia, .int .u64 xa, .int .u64 ya, .bool ib, .int .u64 xb, .int .u64 yb, .bool ic, .int .u64 xc, .int .u64 yc]) (t := 31) (by simp) 2 rfl
      have c_bs_3 := H0.out.cell (b := bs) (cs := #[.bool ia, .int .u64 xa, .int .u64 ya, .bool ib, .int .u64 xb, .int .u64 yb, .bool ic, .int .u64 xc, .int .u64 yc]) (t := 31) (by simp) 3 rfl
      have c_bs_4 := H0.out.cell (b := bs) (cs := #[.bool ia, .int .u64 xa, .int .u64 ya, .bool ib, .int .u64 xb, .int .u64 yb, .bool ic, .int .u64 xc, .int .u64 yc]) (t := 31) (by simp) 4 rfl
      have c_bs_5 := H0.out.cell (b := bs) (cs := #[.bool ia, .int .u64 xa, .int .u64 ya, .bool ib, .int .u64 xb, .int .u64 yb, .bool ic, .int .u64 xc, .int .u64 yc]) (t := 31) (by simp) 5 rfl
      have c_bs_6 := H0.out.cell (b := bs) (cs := #[.bool ia, .int .u64 xa, .int .u64 ya, .bool ib, .int .u64 xb, .int .u64 yb, .bool ic, .int .u64 xc, .int .u64 yc]) (t := 31) (by simp) 6 rfl
      have c_bs_7 := H0.out.cell (b := bs) (cs := #[.bool ia, .int .u64 xa, .int .u64 ya, .bool ib, .int .u64 xb, .int .u64 yb, .bool ic, .int .u64 xc, .int .u64 yc]) (t := 31) (by simp) 7 rfl
      have c_bs_8 := H0.out.cell (b := bs) (cs := #[.bool ia, .int .u64 xa, .int .u64 ya, .bool ib, .int .u64 xb, .int .u64 yb, .bool ic, .int .u64 xc, .int .u64 yc]) (t := 31) (by simp) 8 rfl
      go_upto_region 5 with fail
      have H1 := H0.out.new #[.bool ib, .int .u64 xb, .int .u64 yb] 31
      have O1 := O0.out.alloc (.cells #[.bool ib, .int .u64 xb, .int .u64 yb] 31)
      clear c_bs_0 c_bs_1 c_bs_2 c_bs_3 c_bs_4 c_bs_5 c_bs_6 c_bs_7 c_bs_8
      clear H0 O0
      generalize wr.alloc (.cells #[.bool ib, .int .u64 xb, .int .u64 yb] 31) = w3 at H1 O1 ⊢
      generalize wr.heap.size = b6 at H1 ⊢
      have d0 := H1.cell (b := b6) (cs := #[.bool ib, .int .u64 xb, .int .u64 yb]) (t := 31) (by simp) 0 rfl
      have d1 := H1.cell (b := b6) (cs := #[.bool ib, .int .u64 xb, .int .u64 yb]) (t := 31) (by simp) 1 rfl
      have d2 := H1.cell (b := b6) (cs := #[.bool ib, .int .u64 xb, .int .u64 yb]) (t := 31) (by simp) 2 rfl
      replace H1 := Lib.hid H1
      replace O1 := Lib.hid O1
      go_wp2_with fail
      refine (cb.out _).mono ?_
      rintro e w4 ⟨v, rfl, hO, hb⟩
      have H4 := (HR.sub (qs := [(bs, #[.bool ia, .int .u64 xa, .int .u64 ya, .bool ib, .int .u64 xb, .int .u64 yb, .bool ic, .int .u64 xc, .int .u64 yc], 31)]) H1.out (by simp)).next hb
      have O4 := OwnB.below O1.out hb
      have hp := ptL_pos ib xb.toNat yb.toNat
      have hlen := prL_len ia xa ya ib xb yb ic xc yc 1
      obtain ⟨g, cap, cur, rfl, hge, hr, hle, hm, hsz, htk⟩ := hO.size hp.1
      have hbl := hO.bl
      obtain ⟨v2, w5, hap, hO2, hb2, hg2, -⟩ := append_ownB w4 w.heap.size _ (prL ia xa ya ib xb yb ic xc yc 1) (Obol.ptL ib xb.toNat yb.toNat) O4 ⟨g, 0, none⟩ _ cap rfl (fun k hk => by rw [addB]; exact hbl k hk) (by omega) H4.2.size
      have HN : Hid (OwnB w5 w.heap.size v2 (prL ia xa ya ib xb yb ic xc yc (1 + 1)) ∧ HR w w5 [(bs, #[.bool ia, .int .u64 xa, .int .u64 ya, .bool ib, .int .u64 xb, .int .u64 yb, .bool ic, .int .u64 xc, .int .u64 yc], 31)]) := Lib.hid ⟨hO2, H4.keep (KeepT.grown O4 hg2) hb2 (by simp)⟩
      clear d0 d1 d2 H1 O1 hb H4 O4 hO hge hr hle hm hsz htk hbl hO2 hb2 hg2 hp hlen
      go_wp2_with (at_builtin; refine wpList_appended rfl _ _ _ _ rfl _ _ _ rfl rfl hap ?_)
      go_roundw
      case rel => exact ⟨1 + 1, by omega, rfl, HN⟩
      case measure => simp [intOf]
    · have H0 := Lib.hid HI.out.2
      have O0 := Lib.hid HI.out.1
      clear HI
      have c_bs_0 := H0.out.cell (b := bs) (cs := #[.bool ia, .int .u64 xa, .int .u64 ya, .bool ib, .int .u64 xb, .int .u64 yb, .bool ic, .int .u64 xc, .int .u64 yc]) (t := 31) (by simp) 0 rfl
      have c_bs_1 := H0.out.cell (b := bs) (cs := #[.bool ia, .int .u64 xa, .int .u64 ya, .bool ib, .int .u64 xb, .int .u64 yb, .bool ic, .int .u64 xc, .int .u64 yc]) (t := 31) (by simp) 1 rfl
      have c_bs_2 := H0.out.cell (b := bs) (cs := #[.bool ia, .int .u64 xa, .int .u64 ya, .bool ib, .int .u64 xb, .int .u64 yb, .bool ic, .int .u64 xc, .int .u64 yc]) (t := 31) (by simp) 2 rfl
      have c_bs_3 := H0.out.cell (b := bs) (cs := #[.bool ia, .int .u64 xa, .int .u64 ya, .bool ib, .int .u64 xb, .int .u64 yb, .bool ic, .int .u64 xc, .int .u64 yc]) (t := 31) (by simp) 3 rfl
      have c_bs_4 := H0.out.cell (b := bs) (cs := #[.bool ia, .int .u64 xa, .int .u64 ya, .bool ib, .int .u64 xb, .int .u64 yb, .bool ic, .int .u64 xc, .int .u64 yc]) (t := 31) (by simp) 4 rfl
      have c_bs_5 := H0.out.cell (b := bs) (cs := #[.bool ia, .int .u64 xa, .int .u64 ya, .bool ib, .int .u64 xb, .int .u64 yb, .bool ic, .int .u64 xc, .int .u64 yc]) (t := 31) (by simp) 5 rfl
      have c_bs_6 := H0.out.cell (b := bs) (cs := #[.bool ia, .int .u64 xa, .int .u64 ya, .bool ib, .int .u64 xb, .int .u64 yb, .bool ic, .int .u64 xc, .int .u64 yc]) (t := 31) (by simp) 6 rfl
      have c_bs_7 := H0.out.cell (b := bs) (cs := #[.bool ia, .int .u64 xa, .int .u64 ya, .bool ib, .int .u64 xb, .int .u64 yb, .bool ic, .int .u64 xc, .int .u64 yc]) (t := 31) (by simp) 7 rfl
      have c_bs_8 := H0.out.cell (b := bs) (cs := #[.bool ia, .int .u64 xa, .int .u64 ya, .bool ib, .int .u64 xb, .int .u64 yb, .bool ic, .int .u64 xc, .int .u64 yc]) (t := 31) (by simp) 8 rfl
      go_upto_region 5 with fail
      have H1 := H0.out.new #[.bool ic, .int .u64 xc, .int .u64 yc] 31
      have O1 := O0.out.alloc (.cells #[.bool ic, .int .u64 xc, .int .u64 yc] 31)
      clear c_bs_0 c_bs_1 c_bs_2 c_bs_3 c_bs_4 c_bs_5 c_bs_6 c_bs_7 c_bs_8
      clear H0 O0
      generalize wr.alloc (.cells #[.bool ic, .int .u64 xc, .int .u64 yc] 31) = w3 at H1 O1 ⊢
      generalize wr.heap.size = b6 at H1 ⊢
      have d0 := H1.cell (b := b6) (cs := #[.bool ic, .int .u64 xc, .int .u64 yc]) (t := 31) (by simp) 0 rfl
      have d1 := H1.cell (b := b6) (cs := #[.bool ic, .int .u64 xc, .int .u64 yc]) (t := 31) (by simp) 1 rfl
      have d2 := H1.cell (b := b6) (cs := #[.bool ic, .int .u64 xc, .int .u64 yc]) (t := 31) (by simp) 2 rfl
      replace H1 := Lib.hid H1
      replace O1 := Lib.hid O1
      go_wp2_with fail
      refine (cc.out _).mono ?_
      rintro e w4 ⟨v, rfl, hO, hb⟩
      have H4 := (HR.sub (qs := [(bs, #[.bool ia, .int .u64 xa, .int .u64 ya, .bool ib, .int .u64 xb, .int .u64 yb, .bool ic, .int .u64 xc, .int .u64 yc], 31)]) H1.out (by simp)).next hb
      have O4 := OwnB.below O1.out hb
      have hp := ptL_pos ic xc.toNat yc.toNat
      have hlen := prL_len ia xa ya ib xb yb ic xc yc 2
      obtain ⟨g, cap, cur, rfl, hge, hr, hle, hm, hsz, htk⟩ := hO.size hp.1
      have hbl := hO.bl
      obtain ⟨v2, w5, hap, hO2, hb2, hg2, -⟩ := append_ownB w4 w.heap.size _ (prL ia xa ya ib xb yb ic xc yc 2) (Obol.ptL ic xc.toNat yc.toNat) O4 ⟨g, 0, none⟩ _ cap rfl (fun k hk => by rw [addB]; exact hbl k hk) (by omega) H4.2.size
      have HN : Hid (OwnB w5 w.heap.size v2 (prL ia xa ya ib xb yb ic xc yc (2 + 1)) ∧ HR w w5 [(bs, #[.bool ia, .int .u64 xa, .int .u64 ya, .bool ib, .int .u64 xb, .int .u64 yb, .bool ic, .int .u64 xc, .int .u64 yc], 31)]) := Lib.hid ⟨hO2, H4.keep (KeepT.grown O4 hg2) hb2 (by simp)⟩
      clear d0 d1 d2 H1 O1 hb H4 O4 hO hge hr hle hm hsz htk hbl hO2 hb2 hg2 hp hlen
      go_wp2_with (at_builtin; refine wpList_appended rfl _ _ _ _ rfl _ _ _ rfl rfl hap ?_)
      go_roundw
      case rel => exact ⟨2 + 1, by omega, rfl, HN⟩
      case measure => simp [intOf]
    · go_wp2_with fail
      go_ret2
      exact ⟨_, rfl, HI.out.1, HI.out.2.2⟩

end Go.Proofs.Ytkfimfjjmdjbdaa
/- Numbers in memory; slices of numbers of the call's own (for seats without package pedersen: else Wped, Wnums). -/
namespace Go.Proofs.Ytkfimfjjmdjbdaa
open Go.RowKit

/-! numbers in memory -/
def UL (w : World) (b o : Nat) (L : List Nat) : Prop := ∀ i, i < L.length → w.cell? ⟨b, o + i, none⟩ = some (.int .u64 ((L.getD i 0 : Nat) : Int))
theorem UL.below {B : Nat} {w w' : World} {b o : Nat} {L : List Nat} (h : UL w b o L) (hb : Below B w w') (hB : b < B) : UL w' b o L := fun i hi => (hb.cell (p := ⟨b, o + i, none⟩) hB).trans (h i hi)
theorem UL.lt {w : World} {b o : Nat} {L : List Nat} (h : UL w b o L) (h0 : 0 < L.length) : b < w.heap.size := World.block_lt_of_cell? w ⟨b, o + 0, none⟩ (h 0 h0)
structure U64 (n : Nat) (L : List Nat) : Prop where
  len : L.length = n
  lt : ∀ i, L.getD i 0 < 18446744073709551616
structure SlU (base : Nat) (w : World) (a : Option Addr) (c : Nat) (R : List Nat) : Prop where
  le : R.length ≤ c
  cap : c ≤ 9223372036854775807
  no : a = none → R.length = 0 ∧ c = 0
  bl : 0 < R.length → ∃ b o, a = some ⟨b, o, none⟩ ∧ b < base ∧ UL w b o R
theorem SlU.at {w W : World} {a : Option Addr} {c : Nat} {R : List Nat} (h : SlU w.heap.size w a c R) (hw : Below w.heap.size w W) : SlU W.heap.size W a c R :=
  ⟨h.le, h.cap, h.no, fun h0 => by
    obtain ⟨b, o, h1, h2, h3⟩ := h.bl h0
    exact ⟨b, o, h1, Nat.lt_of_lt_of_le h2 hw.size, h3.below hw h2⟩⟩

abbrev N64 (L : List Nat) : List Value := L.map fun (n : Nat) => Value.int .u64 (n : Int)
def OwnU (w : World) (base : Nat) (v : Value) (L : List Nat) : Prop := w.ownsRow base 22 1 v L.length (N64 L)
theorem OwnU.nil (w : World) (base : Nat) : OwnU w base (.slice none 0 0) [] := World.ownsRow_nil _ _ _ _
theorem OwnU.app {w : World} {base : Nat} {v : Value} {L M : List Nat} {news : List Value} (h : w.ownsRow base 22 1 v (L.length + M.length) (N64 L ++ news)) (e : news = N64 M) : OwnU w base v (L ++ M) := by
  subst e; unfold OwnU; rw [List.length_append, N64, List.map_append]; exact h
theorem OwnU.ul {w : World} {base : Nat} {L : List Nat} {g n cap : Nat} (h : OwnU w base (.slice (some ⟨g, 0, none⟩) n cap) L) : UL w g 0 L := fun i hi => by
  have h0 : n = L.length := by
    rcases h.2 with ⟨h1, _⟩ | ⟨g', cap', cur, h1, _⟩
    · cases h1
    · simp only [Value.slice.injEq] at h1
      exact h1.2.1
  subst h0
  rw [Nat.zero_add, World.ownsRow.cellAt h i (by omega)]
  simp only [List.getElem?_map, List.getElem?_eq_getElem hi, List.getD_eq_getElem?_getD]
  rfl
theorem OwnU.keep {w w' : World} {base B : Nat} {v : Value} {L : List Nat} (h : OwnU w base v L) (hb : Below B w w') (hB : w.heap.size ≤ B) : OwnU w' base v L := by
  refine ⟨h.1, ?_⟩
  rcases h.2 with h | ⟨g, cap, cur, h1, h2, h3, h4⟩
  · exact .inl h
  · exact .inr ⟨g, cap, cur, h1, h2, (hb.block g (Nat.lt_of_lt_of_le (Array.getElem?_eq_some_iff.1 h3).1 hB)).trans h3, h4⟩
theorem OwnU.row {w : World} {base : Nat} {v : Value} {L : List Nat} (h : OwnU w base v L) (hv : v ≠ .slice none 0 0) : ∃ g cap cur, v = .slice (some ⟨g, 0, none⟩) L.length cap ∧ base ≤ g ∧ Row w g cur 22 ∧ L.length ≤ cap ∧ cap ≤ maxLen ∧ cur.size = cap ∧ cur.toList.take L.length = N64 L := by
  rcases h.2 with ⟨rfl, _⟩ | ⟨g, cap, cur, h1, h2, h3, h4, h5, h6, h7⟩
  · exact absurd rfl hv
  · exact ⟨g, cap, cur, h1, h2, h3, h4, h5, by simpa using h6, by simpa using h7⟩
/-- As an argument. -/
theorem OwnU.sl {w : World} {base : Nat} {v : Value} {L : List Nat} (h : OwnU w base v L) : ∃ ao cap, v = .slice ao L.length cap ∧ SlU w.heap.size w ao cap L := by
  by_cases hv : v = .slice none 0 0
  · subst hv
    have h0 : L.length = 0 := by
      rcases h.2 with ⟨_, h0⟩ | ⟨g', cap', cur, h1, _⟩
      · omega
      · cases h1
    exact ⟨none, 0, by rw [h0], by omega, by omega, fun _ => ⟨h0, rfl⟩, fun h1 => by omega⟩
  · obtain ⟨g, cap, cur, rfl, h2, h3, h4, h5, h6, h7⟩ := h.row hv
    exact ⟨_, _, rfl, h4, (by unfold maxLen at h5; omega), (fun h => by cases h), fun _ => ⟨g, 0, rfl, h3.lt, h.ul⟩⟩
theorem info64n : (Try.prog.info? 22).map (fun i => (i.zero, i.size, i.bytes)) = some (some (.int .u64 0), 1, 8) := by kernel_rfl
theorem info_parts8 {i : Option TypeInfo} {z : Value} {s b : Nat} (h : i.map (fun i => (i.zero, i.size, i.bytes)) = some (some z, s, b)) : ∃ t, i = some t ∧ t.zero = some z ∧ t.size = s ∧ t.bytes = b := by
  cases i with
  | none => simp at h
  | some t => simp at h; exact ⟨t, rfl, h.1, h.2.1, h.2.2⟩
theorem append_ownU (W : World) (base : Nat) (v : Value) (L M : List Nat) (hown : OwnU W base v L) (ad : Addr) (m c : Nat) (hm : M.length = m) (hnews : ∀ j, j < M.length → W.cell? (ad.add j) = some (.int .u64 ((M.getD j 0 : Nat) : Int)))
    (hlen : L.length + M.length ≤ 100000000) (hbase : base ≤ W.heap.size) :
    ∃ v' W', (∀ ty, (Builtin.append_ #[57, 57] ty #[v, .slice (some ad) m c]).run Try.prog W = .ok v' W') ∧ OwnU W' base v' (L ++ M) ∧ Below base W W' ∧ (v' = .slice none 0 0 ↔ v = .slice none 0 0 ∧ m = 0) := by
  subst hm
  obtain ⟨ti, hti, htz, hts, htb⟩ := info_parts8 info64n
  obtain ⟨v', W', hr, ho, hg, hn⟩ := run_append_own W base 57 0 22 ti (.int .u64 0) 1 8 Try.underlying57 hti htz hts htb rfl (by decide) v L.length (N64 L) hown ad M.length c (N64 M) (by simp)
    (fun j u hu => by
      have hj : j < M.length := by have := (List.getElem?_eq_some_iff.1 hu).1; simpa using this
      rw [hnews j hj]
      rw [List.getElem?_map, List.getElem?_eq_getElem hj] at hu
      rw [List.getD_eq_getElem?_getD, List.getElem?_eq_getElem hj]
      simpa using hu) (fun u hu => by obtain ⟨x, _, rfl⟩ := List.mem_map.1 hu; rfl) (by unfold maxLen; omega) (by omega) hbase
  exact ⟨v', W', fun ty => hr, OwnU.app ho rfl, (Below.refl _ _).grown hg (by omega) (fun q hq => (World.ownsRow.lt hown q hq).1), hn⟩
theorem append_noneU (W : World) (base : Nat) (v : Value) (L : List Nat) (hown : OwnU W base v L) :
    ∀ ty, (Builtin.append_ #[57, 57] ty #[v, .slice none 0 0]).run Try.prog W = .ok v W := by
  obtain ⟨ti, hti, htz, hts, htb⟩ := info_parts8 info64n
  intro ty
  exact run_append_owned_none (P := Try.prog) W base 57 ty 22 ti 1 Try.underlying57 hti v L.length (N64 L) hown
theorem newsU (w : World) (x : Int) (x0 : 0 ≤ x) : ∀ j, j < [x.toNat].length → (w.alloc (.cells #[.int .u64 x] 22)).cell? ((⟨w.heap.size, 0, none⟩ : Addr).add j) = some (.int .u64 (([x.toNat].getD j 0 : Nat) : Int)) := fun j hj => by
  obtain rfl : j = 0 := by simp at hj; omega
  rw [addP]
  have := (show Row (w.alloc (.cells #[.int .u64 x] 22)) w.heap.size #[.int .u64 x] 22 from Row.new _ _ _).cell 0 rfl
  rw [this]
  simp
  omega
/-- 'append([]uint64{}, b...)' -/
theorem append_copyU (W : World) (ao : Option Addr) (len cap : Nat) (L : List Nat) (H : L.length = len) (hl : len ≤ 10000000) (hn : ao = none → len = 0 ∧ cap = 0) (hc : 0 < len → ∃ b o, ao = some ⟨b, o, none⟩ ∧ UL W b o L) :
    ∃ v' W', (∀ ty, (Builtin.append_ #[57, 57] ty #[.slice (some ⟨W.heap.size, 0, none⟩) 0 0, .slice ao len cap]).run Try.prog (W.alloc (.cells #[] 22)) = .ok v' W') ∧ v' ≠ .slice none 0 0 ∧
      OwnU W' W.heap.size v' L ∧ Below W.heap.size W W' := by
  have he : OwnU (W.alloc (.cells #[] 22)) W.heap.size (.slice (some ⟨W.heap.size, 0, none⟩) 0 0) [] := World.ownsRow_made W #[] 0 (Nat.le_refl _) (by decide) rfl
  cases ao with
  | none =>
    obtain ⟨rfl, rfl⟩ := hn rfl
    obtain rfl : L = [] := List.length_eq_zero_iff.1 H
    exact ⟨_, _, append_noneU _ _ _ _ he, (fun h => by cases h), he, bAlloc (Below.refl _ _) _⟩
  | some ad =>
    obtain ⟨v', W', h1, h2, h3, h4⟩ := append_ownU _ _ _ _ L he ad len cap H (fun j hj => by
      obtain ⟨b, o, h1, h2⟩ := hc (by omega)
      obtain rfl := Option.some.inj h1
      rw [addB]
      exact (h2.below (B := W.heap.size) (bAlloc (Below.refl _ _) _) (h2.lt (by omega))) j hj) (by simp; omega) (by simp)
    exact ⟨v', W', h1, (fun h => by cases (h4.1 h).1), h2, ((Below.refl W.heap.size W).alloc (Nat.le_refl _) _).trans h3⟩

end Go.Proofs.Ytkfimfjjmdjbdaa
/- Walks: slices.Concat of numbers. -/
namespace Go.Proofs.Ytkfimfjjmdjbdaa
open Go.RowKit

structure Part where
  g : Nat
  o : Nat
  n : Nat
  c : Nat
  L : List Nat
abbrev Part.v (p : Part) : Value := .slice (some ⟨p.g, p.o, none⟩) p.n p.c
def catL (P : List Part) : List Nat := P.flatMap (·.L)
theorem catL_take {P : List Part} {j : Nat} (h : j < P.length) : catL (P.take (j + 1)) = catL (P.take j) ++ (P[j]).L := by
  unfold catL
  rw [List.take_add_one, List.getElem?_eq_getElem h, List.flatMap_append]
  simp
theorem catL_take_len (P : List Part) (j : Nat) : (catL (P.take j)).length ≤ (catL P).length := by
  have h : catL P = catL (P.take j) ++ catL (P.drop j) := by unfold catL; rw [← List.flatMap_append, List.take_append_drop]
  rw [h, List.length_append]
  omega

set_option maxRecDepth 8000 in
theorem uGrow (n : Nat) (h0 : 0 < n) (h1 : n ≤ 1000) (w : World) : Calls Try.prog 48 #[.slice none 0 0, .int .i64 (n : Int)] w fun e w' => ∃ g c, e = .returned (.slice (some ⟨g, 0, none⟩) 0 c) ∧ OwnU w' w.heap.size (.slice (some ⟨g, 0, none⟩) 0 c) [] ∧ Below w.heap.size w w' := by
  obtain ⟨ti, hti, htz, hts, htb⟩ := info_parts8 info64n
  have hz := Lib.run_append_nil_zeros (P := Try.prog) w 57 3 57 22 ti (.int .u64 0) .i64 .i64 Try.underlying57 Try.underlying3 hti htz n (by omega) (by rw [hts]; omega) (by omega) (by rw [htb]; omega)
  have hge := grownCap_ge w n 0 22
  have hle := grownCap_le_maxLen w n 0 22 (by unfold maxLen; omega)
  obtain ⟨c, hc⟩ : ∃ c, grownCap w n 0 22 = c := ⟨_, rfl⟩
  rw [hc] at hz hge hle
  obtain ⟨Z, hZ⟩ : ∃ Z, Builtin.zeroCells (Value.int .u64 0).cells n ++ Builtin.zeroCells (Value.int .u64 0).cells (c - n) = Z := ⟨_, rfl⟩
  have hZs : Z.size = c := by rw [← hZ]; simp [size_zeroCells, Value.cells]; omega
  rw [hZ] at hz
  have O := Lib.hid (World.ownsRow_made (e := 22) (size := 1) w.drew Z c (Nat.le_refl _) hle (by omega))
  have B := Lib.hid (bAlloc (bDrew (Below.refl _ w)) (.cells Z 22))
  have hci : (n : Int) ≤ (c : Int) := by omega
  have hni : 0 < (n : Int) := by omega
  have hni2 : (n : Int) ≤ 1000 := by omega
  clear hge hc hZ hZs
  go_enter Try.func48, Try.ntmps48
  go_wp2_with (at_builtin; refine Lib.wpList_append_run _ rfl _ _ _ _ rfl _ _ rfl rfl _ _ hz ?_)
  go_ret
  exact ⟨_, c, rfl, O.out, B.out⟩

theorem part_cell (P : List Part) (j : Nat) (h : j < P.length) : ((P.map Part.v).toArray)[j]? = some (P[j]).v := by
  rw [List.getElem?_toArray, List.getElem?_map, List.getElem?_eq_getElem h]; rfl

structure CatI (P : List Part) (w : World) (wr : World) (q : Value) (j : Nat) : Prop where
  own : OwnU wr w.heap.size q (catL (P.take j))
  bel : Below w.heap.size w wr
  some : q ≠ .slice none 0 0
set_option maxRecDepth 8000 in
set_option maxHeartbeats 2000000 in
theorem uConcat (bw k cw : Nat) (P : List Part) (hk : P.length = k) (hk1 : k ≤ 10) (w : World) (R0 : Row w bw (P.map Part.v).toArray 57)
    (hP : ∀ j (h : j < P.length), (P[j]).L.length = (P[j]).n ∧ UL w (P[j]).g (P[j]).o (P[j]).L ∧ (P[j]).g < w.heap.size) (h0 : 0 < (catL P).length) (h1 : (catL P).length ≤ 1000) :
    Calls Try.prog 20 #[.slice (some ⟨bw, 0, none⟩) k cw] w fun e w' => ∃ g c, e = .returned (.slice (some ⟨g, 0, none⟩) (catL P).length c) ∧ OwnU w' w.heap.size (.slice (some ⟨g, 0, none⟩) (catL P).length c) (catL P) ∧ Below w.heap.size w w' := by
  have R := Lib.hid R0
  have HP := Lib.hid hP
  have hlt := Lib.hid R0.lt
  subst hk
  have hkI : (P.length : Int) ≤ 10 := by omega
  clear R0 hP
  go_enter Try.func20, Try.ntmps20
  go_wp2_with fail
  go_loopw [3, 11] (fun q1 q2 wr => ∃ j s : Nat, q1 = .int .i64 (s : Int) ∧ q2 = .int .i64 (j : Int) ∧ j ≤ P.length ∧ Hid (s = (catL (P.take j)).length) ∧ wr = w) (fun _ q2 _ => (10 - intOf q2).toNat)
  case atStart => exact ⟨0, 0, rfl, rfl, by omega, Lib.hid (by simp [catL]), rfl⟩
  case round =>
    obtain ⟨j, s, rfl, rfl, hj, hs, rfl⟩ := hrel
    have hsb : (s : Int) ≤ 1000 := by have := hs.out; have := catL_take_len P j; omega
    by_cases hjk : j < P.length
    · obtain ⟨e1, -, -⟩ := HP.out j hjk
      have hsn : Hid (s + (P[j]).n = (catL (P.take (j + 1))).length) := Lib.hid (by rw [catL_take hjk, List.length_append, ← hs.out, e1])
      have hb2 : (s : Int) + ((P[j]).n : Int) ≤ 1000 := by have := hsn.out; have := catL_take_len P (j + 1); omega
      have c := R.out.cell j (part_cell P j hjk)
      have hdj : decide (j < P.length) = true := decide_eq_true hjk
      generalize P[j] = p at *
      clear e1
      go_wp2_with fail
      go_roundw
      case rel => exact ⟨j + 1, s + p.n, by go_num, by go_num, by omega, hsn, by trivial⟩
      case measure => simp [intOf]; omega
    · obtain rfl : j = P.length := by omega
      have hs2 : s = (catL P).length := by rw [hs.out, List.take_length]
      subst hs2
      have cG := Lib.hid (fun W => uGrow (catL P).length h0 h1 W)
      clear hs
      go_wp2_with fail
      refine (cG.out _).mono ?_
      rintro e w1 ⟨g, c, rfl, hO, hb⟩
      have I0 : Hid (CatI P wr w1 (.slice (some ⟨g, 0, none⟩) 0 c) 0) := Lib.hid ⟨by simpa [catL] using hO, hb, fun h => by cases h⟩
      clear hO hb
      go_wp2_with fail
      go_loopw [6, 27] (fun q1 q2 w2 => ∃ j : Nat, q2 = .int .i64 (j : Int) ∧ j ≤ P.length ∧ Hid (CatI P wr w2 q1 j)) (fun _ q2 _ => (10 - intOf q2).toNat)
      case atStart => exact ⟨0, rfl, by omega, I0⟩
      case round =>
        clear I0
        obtain ⟨j, rfl, hj, HI⟩ := hrel
        by_cases hjk : j < P.length
        · obtain ⟨e1, e2, e3⟩ := HP.out j hjk
          have hOn := HI.out.own
          have hB := HI.out.bel
          have hnn := HI.out.some
          have hle : (catL (P.take j)).length + (P[j]).L.length ≤ 1000 := by
            have := catL_take_len P (j + 1)
            rw [catL_take hjk, List.length_append] at this
            omega
          have c := R.out.below hB R.out.lt |>.cell j (part_cell P j hjk)
          have hcat := catL_take hjk
          have hul := e2.below hB e3
          obtain ⟨v2, w2, hap, hO2, hb2, hnil⟩ := append_ownU wr _ u6 (catL (P.take j)) (P[j]).L hOn ⟨(P[j]).g, (P[j]).o, none⟩ (P[j]).n (P[j]).c e1 (fun i hi => by rw [addP]; exact hul i hi) (by omega) hB.size
          rw [← hcat] at hO2
          have HN : Hid (CatI P _ w2 v2 (j + 1)) := Lib.hid ⟨hO2, hB.trans hb2, fun h => hnn (hnil.1 h).1⟩
          have hdj : decide (j < P.length) = true := decide_eq_true hjk
          clear hOn hnn hle hcat hul hO2 hb2 hnil e1 e2 e3 hB
          generalize P[j] = p at *
          go_wp2_with (at_builtin; refine wpList_appended rfl _ _ _ _ rfl _ _ _ rfl rfl hap ?_)
          go_roundw
          case rel => exact ⟨j + 1, by go_num, by omega, HN⟩
          case measure => simp [intOf]; omega
        · obtain rfl : j = P.length := by omega
          have hO := HI.out.own
          rw [List.take_length] at hO
          obtain ⟨g2, c2, cur, rfl, -, -, -⟩ := hO.row HI.out.some
          have HO := Lib.hid hO
          have HB := Lib.hid HI.out.bel
          clear hO HI
          go_wp2_with fail
          go_ret
          exact ⟨g2, c2, rfl, HO.out, HB.out⟩

end Go.Proofs.Ytkfimfjjmdjbdaa
/- Walks: slices.ContainsFunc of numbers that are too great. -/
namespace Go.Proofs.Ytkfimfjjmdjbdaa
open Go.RowKit

abbrev fvR : Value := .func (.func 22) #[] #[]
theorem tBig (n : Int) (w : World) : Calls Try.prog 22 #[.int .u64 n] w fun e w' => e = .returned (.bool (decide (288230376287764481 ≤ n))) ∧ w' = w := by
  go_enter Try.func22, Try.ntmps22
  go_wp2
  go_ret
  exact ⟨rfl, rfl⟩
def bigN (n : Nat) : Bool := decide (Obol.R ≤ n)
def IdxSaid (b : Bool) (w : World) (e : Ending) (w' : World) : Prop := (∃ i : Int, i ≤ 1000 ∧ (if b = true then 0 ≤ i else i = -1) ∧ e = .returned (.int .i64 i)) ∧ w' = w
theorem any_take {L : List Nat} {j : Nat} (h : j < L.length) (hn : (L.take j).any bigN = false) (hb : bigN (L.getD j 0) = false) : (L.take (j + 1)).any bigN = false := by
  rw [List.take_add_one, List.getElem?_eq_getElem h, List.any_append, hn]
  rw [List.getD_eq_getElem?_getD, List.getElem?_eq_getElem h] at hb
  simpa using hb
theorem any_hit {L : List Nat} {j : Nat} (h : j < L.length) (hb : bigN (L.getD j 0) = true) : L.any bigN = true := by
  rw [List.any_eq_true]
  rw [List.getD_eq_getElem?_getD, List.getElem?_eq_getElem h] at hb
  exact ⟨L[j], List.getElem_mem h, hb⟩
set_option maxRecDepth 8000 in
theorem uIndex (g o n c : Nat) (L : List Nat) (hL : L.length = n) (hn : n ≤ 1000) (w : World) (hU : UL w g o L) :
    Calls Try.prog 49 #[.slice (some ⟨g, o, none⟩) n c, fvR] w (IdxSaid (L.any bigN) w) := by
  subst hL
  have U := Lib.hid hU
  have hni : (L.length : Int) ≤ 1000 := by omega
  clear hU
  go_enter Try.func49, Try.ntmps49
  go_wp2_with fail
  go_loopw [8] (fun q wr => ∃ j : Nat, q = .int .i64 (j : Int) ∧ j ≤ L.length ∧ Hid ((L.take j).any bigN = false) ∧ wr = w) (fun q _ => (1000 - intOf q).toNat)
  case atStart => exact ⟨0, rfl, by omega, Lib.hid rfl, rfl⟩
  case round =>
    obtain ⟨j, rfl, hj, hA, rfl⟩ := hrel
    by_cases hjk : j < L.length
    · have hcell := U.out j hjk
      obtain ⟨v, hv⟩ : ∃ v : Int, ((L.getD j 0 : Nat) : Int) = v := ⟨_, rfl⟩
      rw [hv] at hcell
      have hdj : decide (j < L.length) = true := decide_eq_true hjk
      by_cases hb : 288230376287764481 ≤ v
      · have hR : Hid (L.any bigN = true) := Lib.hid (any_hit hjk (by unfold bigN; rw [decide_eq_true_eq, Obol.R_def]; omega))
        have hdb : decide (288230376287764481 ≤ v) = true := decide_eq_true hb
        replace hv := Lib.hid hv
        go_wp2_with (go_at_call 22; refine (tBig _ _).mono ?_; rintro e w' ⟨rfl, rfl⟩)
        go_ret
        exact ⟨⟨(j : Int), by omega, by rw [if_pos hR.out]; omega, rfl⟩, rfl⟩
      · have hN : Hid ((L.take (j + 1)).any bigN = false) := Lib.hid (any_take hjk hA.out (by unfold bigN; rw [decide_eq_false_iff_not, Obol.R_def]; omega))
        have hdb : decide (288230376287764481 ≤ v) = false := decide_eq_false hb
        replace hv := Lib.hid hv
        go_wp2_with (go_at_call 22; refine (tBig _ _).mono ?_; rintro e w' ⟨rfl, rfl⟩)
        go_roundw
        case rel => exact ⟨j + 1, by go_num, by omega, hN, by trivial⟩
        case measure => simp [intOf]; omega
    · obtain rfl : j = L.length := by omega
      have hR : Hid (L.any bigN = false) := Lib.hid (by have := hA.out; rwa [List.take_length] at this)
      clear hA
      go_wp2_with fail
      go_ret
      exact ⟨⟨-1, by omega, by rw [hR.out]; rfl, rfl⟩, rfl⟩
theorem uContains (g o n c : Nat) (L : List Nat) (hL : L.length = n) (hn : n ≤ 1000) (w : World) (hU : UL w g o L) :
    Calls Try.prog 21 #[.slice (some ⟨g, o, none⟩) n c, fvR] w fun e w' => e = .returned (.bool (L.any bigN)) ∧ w' = w := by
  have cI := Lib.hid (uIndex g o n c L hL hn w hU)
  clear hU hL
  go_enter Try.func21, Try.ntmps21
  go_wp2_with fail
  refine cI.out.mono ?_
  rintro e w' ⟨⟨i, hi, hb, rfl⟩, rfl⟩
  cases hA : L.any bigN
  · rw [hA] at hb
    obtain rfl : i = -1 := hb
    have hA2 := Lib.hid hA
    clear hA
    go_wp2_with fail
    go_ret
    exact ⟨by rw [hA2.out]; rfl, rfl⟩
  · rw [hA, if_pos rfl] at hb
    have hd : decide (0 ≤ i) = true := decide_eq_true hb
    have hA2 := Lib.hid hA
    clear hA
    go_wp2_with fail
    go_ret
    exact ⟨by rw [hA2.out]; first | rfl | (simp [hd]), rfl⟩

end Go.Proofs.Ytkfimfjjmdjbdaa
/- Walks: package edwards: the first point; the head of the statements of layer 7. -/
namespace Go.Proofs.Ytkfimfjjmdjbdaa
open Go.RowKit

/-- What the head's calls come to. -/
theorem upIs (w : World) : Calls Try.prog 50 #[edV 223588670687113535 82055451961885530] w fun e w' => e = .returned (.bool true) ∧ Below w.heap.size w w' := by
  have h := eIs 223588670687113535 82055451961885530 (by omega) (by omega) w
  have e : Obol.isN ((223588670687113535 : Int).toNat, (82055451961885530 : Int).toNat) = true := by rw [Obol.isN_eq]; decide +kernel
  rw [e] at h
  exact h
theorem upMul (w : World) : Calls Try.prog 51 #[edV 223588670687113535 82055451961885530, .int .u64 72057593894066549] w fun e w' => e = .returned (edV 0 1) ∧ Below w.heap.size w w' := by
  have h := eMulK 223588670687113535 82055451961885530 72057593894066549 (by omega) (by omega) (by omega) (by omega) w
  have e : Obol.smulN ((223588670687113535 : Int).toNat, (82055451961885530 : Int).toNat) (72057593894066549 : Int).toNat = (0, 1) := by
    have e1 : ((223588670687113535 : Int).toNat, (82055451961885530 : Int).toNat) = Obol.Pnt.n Obol.G := Obol.G_n.symm
    have e2 : (72057593894066549 : Int).toNat = Obol.S := by decide +kernel
    rw [e1, e2, Obol.smulN_eq, Obol.of_n, Obol.G_S, Obol.zero_n]
    rfl
  rw [e] at h
  exact h
theorem sure_ok {p : Nat × Nat} (h : Obol.isQ p = true) : Obol.sureN p = p := by unfold Obol.sureN; rw [Obol.isN_eq, if_pos h]
/-! what a region that draws holds on to: a block of two cells -/
theorem held2 {w w1 : World} {b : Nat} {v0 v1 : Value} {t : TypeId} (h : Row w1 b #[v0, v1] t) (hb : Below w.heap.size w w1) :
    w1.cell? ⟨b, 0, none⟩ = some v0 ∧ w1.cell? ⟨b, 1, none⟩ = some v1 ∧ Row w1 b #[v0, v1] t ∧ Below w.heap.size w w1 := ⟨h.cell 0 rfl, h.cell 1 rfl, h, hb⟩
theorem held2_drew {w w1 : World} {b : Nat} {v0 v1 : Value} {t : TypeId} (h : Row w1 b #[v0, v1] t) (hb : Below w.heap.size w w1) :
    w1.drew.cell? ⟨b, 0, none⟩ = some v0 ∧ w1.drew.cell? ⟨b, 1, none⟩ = some v1 ∧ Row w1.drew b #[v0, v1] t ∧ Below w.heap.size w w1.drew := held2 h.drew (bDrew hb)
theorem held2_next {w w1 w2 : World} {b : Nat} {v0 v1 : Value} {t : TypeId} (h : w1.cell? ⟨b, 0, none⟩ = some v0 ∧ w1.cell? ⟨b, 1, none⟩ = some v1 ∧ Row w1 b #[v0, v1] t ∧ Below w.heap.size w w1) (hb : Below w1.heap.size w1 w2) :
    w2.cell? ⟨b, 0, none⟩ = some v0 ∧ w2.cell? ⟨b, 1, none⟩ = some v1 ∧ Row w2 b #[v0, v1] t ∧ Below w.heap.size w w2 := held2 (h.2.2.1.below hb h.2.2.1.lt) (bThen h.2.2.2 hb h.2.2.2.size)

end Go.Proofs.Ytkfimfjjmdjbdaa
/- Walks: package edwards: points of order S. -/
namespace Go.Proofs.Ytkfimfjjmdjbdaa
open Go.RowKit

/-- Whether a pair is a point of order S. -/
noncomputable def inN (p : Nat × Nat) : Bool := Obol.isN p && decide (Obol.smulN p 72057593894066549 = (0, 1))
theorem litS : (72057593894066549 : Int).toNat = 72057593894066549 := by decide +kernel
theorem inN_far {p : Nat × Nat} (h : Obol.isN p = false) : inN p = false := by unfold inN; rw [h]; rfl
theorem inN_near {p : Nat × Nat} (h : Obol.isN p = true) : inN p = ((((Obol.smulN p 72057593894066549).1 : Nat) : Int) == 0 && (((Obol.smulN p 72057593894066549).2 : Nat) : Int) == 1) := by
  unfold inN
  rw [h, Bool.true_and, Bool.eq_iff_iff, Bool.and_eq_true, decide_eq_true_eq, beq_iff_eq, beq_iff_eq, Prod.ext_iff]
  simp only
  omega

theorem eIn (X Y : Int) (hX : 0 ≤ X) (hY : 0 ≤ Y) (w : World) :
    Calls Try.prog 23 #[edV X Y] w fun e w' => e = .returned (.bool (inN (X.toNat, Y.toNat))) ∧ Below w.heap.size w w' := by
  by_cases hi : Obol.isN (X.toNat, Y.toNat) = true
  · have hr := Lib.hid (inN_near hi)
    have hI := Lib.hid hi
    have hM := Lib.hid (fun w => eMulK X Y 72057593894066549 hX hY (by omega) (by omega) w)
    rw [litS] at hM
    generalize (((Obol.smulN (X.toNat, Y.toNat) 72057593894066549).1 : Nat) : Int) = mx at hr hM
    generalize (((Obol.smulN (X.toNat, Y.toNat) 72057593894066549).2 : Nat) : Int) = my at hr hM
    clear hi
    go_enter Try.func23, Try.ntmps23
    go_wp2_with (first
      | (go_at_call 50; refine (eIs _ _ hX hY _).mono ?_; rintro e w1 ⟨rfl, hb⟩; rw [hI.out]; obtain ⟨hc, hf⟩ := bcell hb; have hz := hb.size; (try simp at hz))
      | (go_at_call 51; refine (hM.out _).mono ?_; rintro e w2 ⟨rfl, hb2⟩; replace hb := bThen hb hb2 hb.size; clear hb2; obtain ⟨hc2, hf2⟩ := bcell hb; have hz2 := hb.size; (try simp at hz2))
      | (go_at_call 52; refine (eZero _).mono ?_; rintro e w3 ⟨rfl, hb3⟩; replace hb := bThen hb hb3 hb.size; clear hb3; obtain ⟨hc3, hf3⟩ := bcell hb; have hz3 := hb.size; (try simp at hz3)))
    all_goals
      go_ret
      refine ⟨?_, by repeat (first | exact Below.refl _ _ | assumption | apply bDrewN | apply bDrew | apply bAlloc | refine bSet ?_ (by omega) | refine bThen ?_ (by assumption) (by simp <;> omega))⟩
      rw [hr.out]
      first | (rename_i h1 h2; simp [h1, h2]) | (rename_i h1; simp [h1])
  · have hr := Lib.hid (inN_far (Bool.eq_false_iff.2 hi))
    have hI := Lib.hid (Bool.eq_false_iff.2 hi)
    clear hi
    go_enter Try.func23, Try.ntmps23
    go_wp2_with (go_at_call 50; refine (eIs _ _ hX hY _).mono ?_; rintro e w1 ⟨rfl, hb⟩; rw [hI.out]; obtain ⟨hc, hf⟩ := bcell hb; have hz := hb.size; (try simp at hz))
    go_ret
    exact ⟨by rw [hr.out]; rfl, by repeat (first | exact Below.refl _ _ | assumption | apply bDrewN | apply bDrew | apply bAlloc | refine bSet ?_ (by omega) | refine bThen ?_ (by assumption) (by simp <;> omega))⟩

end Go.Proofs.Ytkfimfjjmdjbdaa
/- Walks: the reference of layer 7: multiples. -/
namespace Go.Proofs.Ytkfimfjjmdjbdaa
open Go.RowKit

theorem r7Sum (X Y X' Y' : Int) (hX : 0 ≤ X) (hY : 0 ≤ Y) (hX' : 0 ≤ X') (hY' : 0 ≤ Y') (w : World) :
    Calls Try.prog 81 #[edV X Y, edV X' Y'] w fun e w' =>
      e = .returned (edV ((Obol.sumN (X.toNat, Y.toNat) (X'.toNat, Y'.toNat)).1 : Nat) ((Obol.sumN (X.toNat, Y.toNat) (X'.toNat, Y'.toNat)).2 : Nat)) ∧ Below w.heap.size w w' := by
  have h0 : Hid (Obol.sumN (X.toNat, Y.toNat) (X'.toNat, Y'.toNat) =
      (Obol.overR (Obol.addR (Obol.mulR X.toNat Y'.toNat) (Obol.mulR Y.toNat X'.toNat)) (Obol.addR 1 (Obol.mulR 439 (Obol.mulR (Obol.mulR X.toNat X'.toNat) (Obol.mulR Y.toNat Y'.toNat)))),
       Obol.overR (Obol.addR (Obol.mulR Y.toNat Y'.toNat) (Obol.mulR X.toNat X'.toNat)) (Obol.subR 1 (Obol.mulR 439 (Obol.mulR (Obol.mulR X.toNat X'.toNat) (Obol.mulR Y.toNat Y'.toNat)))))) := Lib.hid (by
    unfold Obol.sumN
    have : Obol.addR (Obol.mulR Y.toNat Y'.toNat) (Obol.mulR X.toNat X'.toNat) = Obol.addR (Obol.mulR X.toNat X'.toNat) (Obol.mulR Y.toNat Y'.toNat) := by
      rw [Obol.addR_eq, Obol.addQ, Obol.addQ, Nat.add_comm]
    rw [this])
  go_enter Try.func81, Try.ntmps81
  go_wp2_with fail
  go_quiet ((first | (go_at_call 79; first | (refine Calls.quiet_of (r7Mul _ _ ?_ ?_ _) <;> omega) | (refine quiet_add (r7Mul _ _ ?_ ?_ _) <;> omega))))
  go_wp2_with (first | (go_at_call 79; refine (r7Mul _ _ (by omega) (by omega) _).mono ?_; rintro e w' ⟨rfl, n, rfl⟩))
  go_quiet ((first | (go_at_call 79; first | (refine Calls.quiet_of (r7Mul _ _ ?_ ?_ _) <;> omega) | (refine quiet_add (r7Mul _ _ ?_ ?_ _) <;> omega)) | (go_at_call 80; first | (refine Calls.quiet_of (r7Plus _ _ ?_ ?_ _) <;> omega) | (refine quiet_add (r7Plus _ _ ?_ ?_ _) <;> omega))))
  go_wp2_with (first | (go_at_call 88; refine (r7Over _ _ (by omega) (by omega) _).mono ?_; rintro e w' ⟨rfl, n, rfl⟩) | (go_at_call 80; refine (r7Plus _ _ (by omega) (by omega) _).mono ?_; rintro e w' ⟨rfl, n, rfl⟩) | (go_at_call 89; refine (r7Less _ _ (by omega) (by omega) _).mono ?_; rintro e w' ⟨rfl, n, rfl⟩))
  go_quiet ((first | (go_at_call 79; first | (refine Calls.quiet_of (r7Mul _ _ ?_ ?_ _) <;> omega) | (refine quiet_add (r7Mul _ _ ?_ ?_ _) <;> omega)) | (go_at_call 80; first | (refine Calls.quiet_of (r7Plus _ _ ?_ ?_ _) <;> omega) | (refine quiet_add (r7Plus _ _ ?_ ?_ _) <;> omega))))
  go_wp2_with (first | (go_at_call 88; refine (r7Over _ _ (by omega) (by omega) _).mono ?_; rintro e w' ⟨rfl, n, rfl⟩) | (go_at_call 80; refine (r7Plus _ _ (by omega) (by omega) _).mono ?_; rintro e w' ⟨rfl, n, rfl⟩) | (go_at_call 89; refine (r7Less _ _ (by omega) (by omega) _).mono ?_; rintro e w' ⟨rfl, n, rfl⟩))
  refine bodyPost_ret (v := edV _ _) (by simp [results, Try.results81, go_sem]; exact ⟨rfl, rfl⟩) rfl ⟨?_, ?_⟩
  · rw [h0.out]
  · repeat (first | exact Below.refl _ _ | assumption | apply bDrewN | apply bDrew | apply bAlloc | refine bSet ?_ (by omega) | refine bThen ?_ (by assumption) (by simp <;> omega))

/-- What is known ahead of a multiple's next bit. -/
structure R7T (a : Nat × Nat) (k : Nat) (ox oy i : Int) : Prop where
  i0 : 0 ≤ i
  i1 : i ≤ 64
  x0 : 0 ≤ ox
  y0 : 0 ≤ oy
  eq : Obol.timesN a k (64 - i.toNat) (ox.toNat, oy.toNat) = Obol.timesN a k 64 Obol.zeroN

theorem timesN_next (a : Nat × Nat) (k j : Nat) (o : Nat × Nat) : Obol.timesN a k (j + 1) o = Obol.timesN a k j (if k / 2 ^ j % 2 = 1 then Obol.sumN (if o = Obol.zeroN then o else Obol.sumN o o) a else (if o = Obol.zeroN then o else Obol.sumN o o)) := rfl
theorem R7T.step {a : Nat × Nat} {k : Nat} {ox oy i : Int} {y : Int} (h : R7T a k ox oy i) (hk : k = y.toNat) (hy : 0 ≤ y) (hi : i < 64) {o : Nat × Nat} (ho : o = if (ox.toNat, oy.toNat) = Obol.zeroN then (ox.toNat, oy.toNat) else Obol.sumN (ox.toNat, oy.toNat) (ox.toNat, oy.toNat))
    {o' : Nat × Nat} (ho' : o' = if bitI y i = 1 then Obol.sumN o a else o) : R7T a k (o'.1 : Nat) (o'.2 : Nat) (i + 1) := by
  have i0 := h.i0
  refine ⟨by omega, by omega, by omega, by omega, ?_⟩
  have he := h.eq
  rw [show 64 - i.toNat = (63 - i.toNat) + 1 by omega, timesN_next, ← ho] at he
  have hb := bitI_toNat y i hy i0 hi
  rw [show 64 - (i + 1).toNat = 63 - i.toNat by omega, Int.toNat_natCast, Int.toNat_natCast]
  rw [← he, ho']
  by_cases hB : bitI y i = 1
  · rw [if_pos hB, if_pos (by rw [hk]; omega)]
  · rw [if_neg hB, if_neg (by rw [hk]; omega)]
theorem R7T.done {a : Nat × Nat} {k : Nat} {ox oy i : Int} (h : R7T a k ox oy i) (hi : ¬ i < 64) : edV ox oy = edV ((Obol.timesN a k 64 Obol.zeroN).1 : Nat) ((Obol.timesN a k 64 Obol.zeroN).2 : Nat) := by
  have i1 := h.i1
  have he := h.eq
  have x0 := h.x0
  have y0 := h.y0
  rw [show 64 - i.toNat = 0 by omega, Obol.timesN] at he
  rw [← he]
  show edV ox oy = edV ((ox.toNat : Nat) : Int) ((oy.toNat : Nat) : Int)
  rw [Int.toNat_of_nonneg x0, Int.toNat_of_nonneg y0]
theorem zero_or {ox oy : Int} (h0 : 0 ≤ ox) : ((ox.toNat, oy.toNat) = Obol.zeroN) ↔ (ox = 0 ∧ oy = 1) := by
  unfold Obol.zeroN
  rw [Prod.mk.injEq]
  omega

set_option maxHeartbeats 1000000 in
theorem r7Times (X Y k : Int) (hX : 0 ≤ X) (hY : 0 ≤ Y) (hk : 0 ≤ k) (hk1 : k ≤ 18446744073709551615) (w : World) :
    Calls Try.prog 58 #[edV X Y, .int .u64 k] w fun e w' =>
      e = .returned (edV ((Obol.timesN (X.toNat, Y.toNat) k.toNat 64 Obol.zeroN).1 : Nat) ((Obol.timesN (X.toNat, Y.toNat) k.toNat 64 Obol.zeroN).2 : Nat)) ∧ Below w.heap.size w w' := by
  have I0 : Hid (R7T (X.toNat, Y.toNat) k.toNat 0 1 0) := Lib.hid ⟨by omega, by omega, by omega, by omega, rfl⟩
  go_enter Try.func58, Try.ntmps58
  go_wp2_with fail
  go_loopw [6] (fun c wr => ∃ ox oy i : Int, c = .int .i64 i ∧ Row wr w.heap.size #[.int .u64 X, .int .u64 Y] 24 ∧ Row wr (w.heap.size + 1) #[.int .u64 0, .int .u64 0] 24 ∧ Row wr (w.heap.size + 2) #[.int .u64 ox, .int .u64 oy] 24 ∧
    Below w.heap.size w wr ∧ Hid (R7T (X.toNat, Y.toNat) k.toNat ox oy i)) (fun c _ => (64 - intOf c).toNat)
  case atStart => exact ⟨0, 1, 0, rfl, by repeat (first | assumption | exact Row.newAt _ _ (by simp) | apply Row.alloc | apply Row.drewN | apply Row.drew | refine Row.other ?_ (by omega)), by repeat (first | assumption | exact Row.newAt _ _ (by simp) | apply Row.alloc | apply Row.drewN | apply Row.drew | refine Row.other ?_ (by omega)), by repeat (first | assumption | exact Row.newAt _ _ (by simp) | apply Row.alloc | apply Row.drewN | apply Row.drew | refine Row.other ?_ (by omega)), by repeat (first | exact Below.refl _ _ | assumption | apply bDrewN | apply bDrew | apply bAlloc | refine bSet ?_ (by omega) | refine bThen ?_ (by assumption) (by simp <;> omega)), I0⟩
  case round =>
    clear I0
    obtain ⟨ox, oy, i, rfl, Ra, Rr, Ro, hb, HI⟩ := hrel
    have i0 := HI.out.i0
    have i1 := HI.out.i1
    have o1 := HI.out.x0
    have o2 := HI.out.y0
    have ea := bitI_bits k i hk hk1
    have q0 := Ro.cell 0 rfl
    have q1 := Ro.cell 1 rfl
    have p0 := Ra.cell 0 rfl
    have p1 := Ra.cell 1 rfl
    have f0 := Ro.free 0
    have f1 := Ro.free 1
    by_cases hi : i < 64
    · by_cases hz : ox = 0 ∧ oy = 1
      · obtain ⟨rfl, rfl⟩ := hz
        have HS := fun o' => Lib.hid (HI.out.step (y := k) (o := (0, 1)) (o' := o') rfl hk hi (by rw [if_pos]; rfl; rfl))
        rcases bitI_01 k i with hB | hB
        · have HN := Lib.hid ((HS (0, 1)).out (by rw [hB]; rfl))
          rw [hB] at ea
          clear HS
          go_wp2_with fail
          exact ⟨⟨_, _, _, rfl, Ra, Rr, Ro, hb, HN⟩, by simp [intOf]; omega⟩
        · have HN := Lib.hid ((HS _).out (by rw [if_pos hB]))
          rw [hB] at ea
          clear HS
          go_wp2_with fail
          refine (r7Sum _ _ _ _ (by omega) (by omega) (by omega) (by omega) _).mono ?_
          rintro e w3 ⟨rfl, hb3⟩
          replace hb := bThen hb hb3 hb.size
          replace Ra := Ra.below hb3 Ra.lt
          replace Rr := Rr.below hb3 Rr.lt
          replace Ro := Ro.below hb3 Ro.lt
          clear q0 q1 p0 p1 f0 f1 hb3
          have f0 := Ro.free 0
          have f1 := Ro.free 1
          have q0 := Ro.cell 0 rfl
          have q1 := Ro.cell 1 rfl
          go_wp2_with fail
          exact ⟨⟨_, _, _, rfl, (Ra.other (by omega)).other (by omega), (Rr.other (by omega)).other (by omega), Ro.set2, bSet (bSet hb (by omega)) (by omega), HN⟩, by simp [intOf]; omega⟩
      · have hz0 : ¬ (ox.toNat, oy.toNat) = Obol.zeroN := fun e => hz ((zero_or o1).1 e)
        have HS := fun o' => Lib.hid (HI.out.step (y := k) (o := Obol.sumN (ox.toNat, oy.toNat) (ox.toNat, oy.toNat)) (o' := o') rfl hk hi (by rw [if_neg hz0]))
        have hz' : ¬ (ox = 0 ∧ oy = 1) := hz
        have HM : Hid (Obol.sumN (ox.toNat, oy.toNat) (ox.toNat, oy.toNat) = ((((Obol.sumN (ox.toNat, oy.toNat) (ox.toNat, oy.toNat)).1 : Nat) : Int).toNat, (((Obol.sumN (ox.toNat, oy.toNat) (ox.toNat, oy.toNat)).2 : Nat) : Int).toNat)) := Lib.hid (by rw [Int.toNat_natCast, Int.toNat_natCast])
        have HB : Hid (∀ Q : Prop, (ox ≠ 0 → Q) → (ox = 0 → oy ≠ 1 → Q) → Q) := Lib.hid (fun Q h1 h2 => by by_cases hx : ox = 0; exact h2 hx (fun hy => hz ⟨hx, hy⟩); exact h1 hx)
        clear hz hz0 hz'
        refine HB.out _ (fun hx => ?_) (fun hx hy => ?_)
        all_goals (try subst hx)
        all_goals rcases bitI_01 k i with hB | hB
        all_goals
          first
            | (have HN := Lib.hid ((HS _).out (by rw [if_pos hB]))
               rw [HM.out] at HN
               rw [hB] at ea
               clear HS HB
               go_wp2_with fail
               refine (r7Sum _ _ _ _ (by omega) (by omega) (by omega) (by omega) _).mono ?_
               rintro e w3 ⟨rfl, hb3⟩
               replace hb := bThen hb hb3 hb.size
               replace Ra := Ra.below hb3 Ra.lt
               replace Rr := Rr.below hb3 Rr.lt
               replace Ro := Ro.below hb3 Ro.lt
               clear q0 q1 p0 p1 f0 f1 hb3
               have f0 := Ro.free 0
               have f1 := Ro.free 1
               have q0 := Ro.cell 0 rfl
               have q1 := Ro.cell 1 rfl
               have p0 := Ra.cell 0 rfl
               have p1 := Ra.cell 1 rfl
               go_wp2_with fail
               refine (r7Sum _ _ _ _ (by omega) (by omega) (by omega) (by omega) _).mono ?_
               rintro e w4 ⟨rfl, hb4⟩
               replace hb := bThen (bSet (bSet hb (b := w.heap.size + 2) (by omega)) (b := w.heap.size + 2) (by omega)) hb4 (bSet (bSet hb (b := w.heap.size + 2) (by omega)) (b := w.heap.size + 2) (by omega)).size
               replace Ra := ((Ra.other (by omega)).other (by omega)).below hb4 ((Ra.other (by omega)).other (by omega)).lt
               replace Rr := ((Rr.other (by omega)).other (by omega)).below hb4 ((Rr.other (by omega)).other (by omega)).lt
               replace Ro := Ro.set2.below hb4 Ro.set2.lt
               clear q0 q1 p0 p1 f0 f1 hb4
               have f0 := Ro.free 0
               have f1 := Ro.free 1
               have q0 := Ro.cell 0 rfl
               have q1 := Ro.cell 1 rfl
               go_wp2_with fail
               exact ⟨⟨_, _, _, rfl, (Ra.other (by omega)).other (by omega), (Rr.other (by omega)).other (by omega), Ro.set2, bSet (bSet hb (by omega)) (by omega), HN⟩, by simp [intOf]; omega⟩)
            | (have HN := Lib.hid ((HS _).out (by rw [if_neg (show ¬ bitI k i = 1 by omega)]))
               rw [hB] at ea
               clear HS HB
               go_wp2_with fail
               refine (r7Sum _ _ _ _ (by omega) (by omega) (by omega) (by omega) _).mono ?_
               rintro e w3 ⟨rfl, hb3⟩
               replace hb := bThen hb hb3 hb.size
               replace Ra := Ra.below hb3 Ra.lt
               replace Rr := Rr.below hb3 Rr.lt
               replace Ro := Ro.below hb3 Ro.lt
               clear q0 q1 p0 p1 f0 f1 hb3
               have f0 := Ro.free 0
               have f1 := Ro.free 1
               have q0 := Ro.cell 0 rfl
               have q1 := Ro.cell 1 rfl
               go_wp2_with fail
               exact ⟨⟨_, _, _, rfl, (Ra.other (by omega)).other (by omega), (Rr.other (by omega)).other (by omega), Ro.set2, bSet (bSet hb (by omega)) (by omega), HN⟩, by simp [intOf]; omega⟩)
    · have HD := Lib.hid (HI.out.done hi)
      have r0 := Rr.cell 0 rfl
      have r1 := Rr.cell 1 rfl
      have fr0 := Rr.free 0
      have fr1 := Rr.free 1
      clear HI
      go_wp2_with fail
      refine bodyPost_ret (v := edV ox oy) (by simp [results, Try.results58, go_sem, r0, r1]) rfl ⟨by rw [HD.out], ?_⟩
      repeat (first | exact Below.refl _ _ | assumption | apply bDrewN | apply bDrew | apply bAlloc | refine bSet ?_ (by omega) | refine bThen ?_ (by assumption) (by simp <;> omega))

end Go.Proofs.Ytkfimfjjmdjbdaa
/- Walks: packages edwards, obolref07: points of order S. -/
namespace Go.Proofs.Ytkfimfjjmdjbdaa
open Go.RowKit

theorem sure_of {p : Nat × Nat} (h : Obol.isN p = true) : Obol.sureN p = p := by unfold Obol.sureN; rw [if_pos h]
theorem times_is (p : Nat × Nat) (k : Nat) (hk : k < 2 ^ 64) : Obol.timesN (Obol.sureN p) k 64 Obol.zeroN = Obol.smulN p k := by
  rw [Obol.smulN_eq, Obol.sure_n, Obol.times_n _ _ hk]

theorem r7In (X Y : Int) (hX : 0 ≤ X) (hY : 0 ≤ Y) (w : World) :
    Calls Try.prog 31 #[edV X Y] w fun e w' => e = .returned (.bool (inN (X.toNat, Y.toNat))) ∧ Below w.heap.size w w' := by
  by_cases hi : Obol.isN (X.toNat, Y.toNat) = true
  · have hr := Lib.hid (inN_near hi)
    have hI := Lib.hid hi
    have hM := Lib.hid (fun w => r7Times X Y 72057593894066549 hX hY (by omega) (by omega) w)
    have ht := times_is (X.toNat, Y.toNat) 72057593894066549 (by decide +kernel)
    rw [sure_of hi] at ht
    rw [litS, ht] at hM
    clear ht
    generalize (((Obol.smulN (X.toNat, Y.toNat) 72057593894066549).1 : Nat) : Int) = mx at hr hM
    generalize (((Obol.smulN (X.toNat, Y.toNat) 72057593894066549).2 : Nat) : Int) = my at hr hM
    clear hi
    go_enter Try.func31, Try.ntmps31
    go_wp2_with (first
      | (go_at_call 57; refine (r7Is _ _ hX hY _).mono ?_; rintro e w1 ⟨rfl, hb⟩; rw [hI.out]; obtain ⟨hc, hf⟩ := bcell hb; have hz := hb.size; (try simp at hz))
      | (go_at_call 58; refine (hM.out _).mono ?_; rintro e w2 ⟨rfl, hb2⟩; replace hb := bThen hb hb2 hb.size; clear hb2; obtain ⟨hc2, hf2⟩ := bcell hb; have hz2 := hb.size; (try simp at hz2)))
    all_goals
      go_ret
      refine ⟨?_, by repeat (first | exact Below.refl _ _ | assumption | apply bDrewN | apply bDrew | apply bAlloc | refine bSet ?_ (by omega) | refine bThen ?_ (by assumption) (by simp <;> omega))⟩
      rw [hr.out]
      first | (rename_i h1 h2; simp [h1, h2]) | (rename_i h1; simp [h1])
  · have hr := Lib.hid (inN_far (Bool.eq_false_iff.2 hi))
    have hI := Lib.hid (Bool.eq_false_iff.2 hi)
    clear hi
    go_enter Try.func31, Try.ntmps31
    go_wp2_with (go_at_call 57; refine (r7Is _ _ hX hY _).mono ?_; rintro e w1 ⟨rfl, hb⟩; rw [hI.out]; obtain ⟨hc, hf⟩ := bcell hb; have hz := hb.size; (try simp at hz))
    go_ret
    exact ⟨by rw [hr.out]; rfl, by repeat (first | exact Below.refl _ _ | assumption | apply bDrewN | apply bDrew | apply bAlloc | refine bSet ?_ (by omega) | refine bThen ?_ (by assumption) (by simp <;> omega))⟩

end Go.Proofs.Ytkfimfjjmdjbdaa
/- A transaction as values. -/
namespace Go.Proofs.Ytkfimfjjmdjbdaa
open Go.RowKit

structure TxD where
  root : Int
  inn : Int
  out : Int
  fx : Int
  fy : Int
  tx : Int
  ty : Int
  seq : Int
  e0 : Int
  e1 : Int
  m0 : Int
  m1 : Int
  n0x : Int
  n0y : Int
  n1x : Int
  n1y : Int
  a0 : Int
  a1 : Int
  xa : Int
  ya : Int
  xb : Int
  yb : Int
  xc : Int
  yc : Int
  gx : Int
  gy : Int
  gz : Int
  ia : Bool
  ib : Bool
  ic : Bool
  s0 : Option Addr
  l0 : Nat
  c0 : Nat
  s1 : Option Addr
  l1 : Nat
  c1 : Nat
abbrev txV (t : TxD) : Value := .agg #[.int .u64 t.root, .int .u64 t.inn, .int .u64 t.out, .int .u64 t.fx, .int .u64 t.fy, .int .u64 t.tx, .int .u64 t.ty, .int .u64 t.seq, .int .u64 t.e0, .int .u64 t.e1, .int .u64 t.m0, .int .u64 t.m1, .int .u64 t.n0x, .int .u64 t.n0y, .slice t.s0 t.l0 t.c0, .int .u64 t.n1x, .int .u64 t.n1y, .slice t.s1 t.l1 t.c1, .int .u64 t.a0, .int .u64 t.a1, .bool t.ia, .int .u64 t.xa, .int .u64 t.ya, .bool t.ib, .int .u64 t.xb, .int .u64 t.yb, .bool t.ic, .int .u64 t.xc, .int .u64 t.yc, .int .u64 t.gx, .int .u64 t.gy, .int .u64 t.gz]
abbrev txC (t : TxD) : Array Value := #[.int .u64 t.root, .int .u64 t.inn, .int .u64 t.out, .int .u64 t.fx, .int .u64 t.fy, .int .u64 t.tx, .int .u64 t.ty, .int .u64 t.seq, .int .u64 t.e0, .int .u64 t.e1, .int .u64 t.m0, .int .u64 t.m1, .int .u64 t.n0x, .int .u64 t.n0y, .slice t.s0 t.l0 t.c0, .int .u64 t.n1x, .int .u64 t.n1y, .slice t.s1 t.l1 t.c1, .int .u64 t.a0, .int .u64 t.a1, .bool t.ia, .int .u64 t.xa, .int .u64 t.ya, .bool t.ib, .int .u64 t.xb, .int .u64 t.yb, .bool t.ic, .int .u64 t.xc, .int .u64 t.yc, .int .u64 t.gx, .int .u64 t.gy, .int .u64 t.gz]
abbrev zC : Array Value := #[.int .u64 0, .int .u64 0, .int .u64 0, .int .u64 0, .int .u64 0, .int .u64 0, .int .u64 0, .int .u64 0, .int .u64 0, .int .u64 0, .int .u64 0, .int .u64 0, .int .u64 0, .int .u64 0, .slice none 0 0, .int .u64 0, .int .u64 0, .slice none 0 0, .int .u64 0, .int .u64 0, .bool false, .int .u64 0, .int .u64 0, .bool false, .int .u64 0, .int .u64 0, .bool false, .int .u64 0, .int .u64 0, .int .u64 0, .int .u64 0, .int .u64 0]
/-- A cell of a transaction that is held. -/
theorem kT (b : Nat) (t : TxD) {w w1 : World} {rs : List (Nat × Array Value × TypeId)} (h : HR w w1 rs) (i : Nat) {v : Value} (hm : (b, txC t, 37) ∈ rs := by simp) (hv : (txC t)[i]? = some v := by exact rfl) : w1.cell? ⟨b, i, none⟩ = some v := HR.cell h hm i hv
/-- What a transaction's values are. -/
structure TxOk (t : TxD) : Prop where
  root0 : 0 ≤ t.root
  root1 : t.root ≤ 18446744073709551615
  inn0 : 0 ≤ t.inn
  inn1 : t.inn ≤ 18446744073709551615
  out0 : 0 ≤ t.out
  out1 : t.out ≤ 18446744073709551615
  fx0 : 0 ≤ t.fx
  fx1 : t.fx ≤ 18446744073709551615
  fy0 : 0 ≤ t.fy
  fy1 : t.fy ≤ 18446744073709551615
  tx0 : 0 ≤ t.tx
  tx1 : t.tx ≤ 18446744073709551615
  ty0 : 0 ≤ t.ty
  ty1 : t.ty ≤ 18446744073709551615
  seq0 : 0 ≤ t.seq
  seq1 : t.seq ≤ 18446744073709551615
  e00 : 0 ≤ t.e0
  e01 : t.e0 ≤ 18446744073709551615
  e10 : 0 ≤ t.e1
  e11 : t.e1 ≤ 18446744073709551615
  m00 : 0 ≤ t.m0
  m01 : t.m0 ≤ 18446744073709551615
  m10 : 0 ≤ t.m1
  m11 : t.m1 ≤ 18446744073709551615
  n0x0 : 0 ≤ t.n0x
  n0x1 : t.n0x ≤ 18446744073709551615
  n0y0 : 0 ≤ t.n0y
  n0y1 : t.n0y ≤ 18446744073709551615
  n1x0 : 0 ≤ t.n1x
  n1x1 : t.n1x ≤ 18446744073709551615
  n1y0 : 0 ≤ t.n1y
  n1y1 : t.n1y ≤ 18446744073709551615
  a00 : 0 ≤ t.a0
  a01 : t.a0 ≤ 18446744073709551615
  a10 : 0 ≤ t.a1
  a11 : t.a1 ≤ 18446744073709551615
  xa0 : 0 ≤ t.xa
  xa1 : t.xa ≤ 18446744073709551615
  ya0 : 0 ≤ t.ya
  ya1 : t.ya ≤ 18446744073709551615
  xb0 : 0 ≤ t.xb
  xb1 : t.xb ≤ 18446744073709551615
  yb0 : 0 ≤ t.yb
  yb1 : t.yb ≤ 18446744073709551615
  xc0 : 0 ≤ t.xc
  xc1 : t.xc ≤ 18446744073709551615
  yc0 : 0 ≤ t.yc
  yc1 : t.yc ≤ 18446744073709551615
  gx0 : 0 ≤ t.gx
  gx1 : t.gx ≤ 18446744073709551615
  gy0 : 0 ≤ t.gy
  gy1 : t.gy ≤ 18446744073709551615
  gz0 : 0 ≤ t.gz
  gz1 : t.gz ≤ 18446744073709551615

end Go.Proofs.Ytkfimfjjmdjbdaa
/- Walks: package tx: whether a transaction may be. -/
namespace Go.Proofs.Ytkfimfjjmdjbdaa
open Go.RowKit
set_option linter.unusedVariables false

section
variable {P : Program} {ops : List Oper} {Q : Exit → Act → World → Prop} {md : Region.Mode} {S : World → Prop}
theorem st (i : Nat) {oi : Oper} {fuel : Nat} {listed : Array Bool} {a : Act} {w : World} (h : ∀ K' : Act → World → Prop, Shut (∀ a w, S w → (S w → wpAnyH P md ops.toArray Q S fuel (listed.setIfInBounds i true) a w) → K' a w) → Oper.wp P oi a w K' Q)
    (hr : Region.ready md ops.toArray listed = [i] := by kernel_rfl) (hi : ops[i]? = some oi := by exact rfl) (hw : Region.wanted oi (yielded ops.toArray a.tmps) = true := by rfl) : wpAnyH P md ops.toArray Q S (fuel + 1) listed a w := stepH i hr hi hw h
end
theorem tZero (w : World) : Calls Try.prog 24 #[] w fun e w' => e = .returned (.agg #[.int .u64 0, .int .u64 1]) ∧ Below w.heap.size w w' := by
  go_enter Try.func24, Try.ntmps24
  go_wp2_with fail
  refine bodyPost_ret (v := edV 0 1) (by simp [results, Try.results24, go_sem]) rfl ⟨rfl, ?_⟩
  repeat (first | exact Below.refl _ _ | assumption | apply bDrewN | apply bDrew | apply bAlloc | refine bSet ?_ (by omega) | refine bThen ?_ (by assumption) (by simp <;> omega))
theorem tUnsigned (w : World) : Calls Try.prog 26 #[] w fun e w' => e = .returned (.agg #[.int .u64 0, .int .u64 1, .int .u64 0]) ∧ Below w.heap.size w w' := by
  go_enter Try.func26, Try.ntmps26
  go_wp2_with fail
  refine (tZero _).mono ?_
  rintro e w1 ⟨rfl, hb⟩
  have R := (Row.new w #[.int .u64 0, .int .u64 0, .int .u64 0] 35).below hb (by simp)
  have B := bThen (bAlloc (Below.refl w.heap.size w) _) hb (by simp)
  have g0 := R.cell 0 rfl
  have g1 := R.cell 1 rfl
  have g2 := R.cell 2 rfl
  have f0 := R.free 0
  have f1 := R.free 1
  have f2 := R.free 2
  have hS := R.set3 (v0 := .int .u64 0) (v1 := .int .u64 1) (v2 := .int .u64 0)
  have s0 := hS.cell 0 rfl
  have s1 := hS.cell 1 rfl
  have s2 := hS.cell 2 rfl
  have hL := Lib.hid (bSet (bSet (bSet B (b := w.heap.size) (o := 0) (u := .int .u64 0) (by omega)) (b := w.heap.size) (o := 1) (u := .int .u64 1) (by omega)) (b := w.heap.size) (o := 2) (u := .int .u64 0) (by omega))
  clear hb B R hS
  go_wp2_with fail
  refine bodyPost_ret (v := .agg #[.int .u64 0, .int .u64 1, .int .u64 0]) (by simp [results, Try.results26, go_sem, s0, s1, s2]) rfl ⟨rfl, hL.out⟩

def numsL (t : TxD) : List Nat := [t.root.toNat, t.e0.toNat, t.e1.toNat, t.m0.toNat, t.m1.toNat, t.a0.toNat, t.a1.toNat]
def c1 (t : TxD) : Bool := !(numsL t).any bigN && (decide (t.inn < 4294967296) && (decide (t.out < 4294967296) && decide (t.seq ≤ 1125899906842624)))
def zeroB (x y : Int) : Bool := x == 0 && y == 1
theorem zero_if (x y : Int) (wz : World) : (if x = 0 then if y = 1 then Result.ok (Next.value (Value.bool true)) wz else Result.ok (Next.value (Value.bool false)) wz else Result.ok (Next.value (Value.bool false)) wz) = Result.ok (Next.value (.bool (zeroB x y))) wz := by
  unfold zeroB
  by_cases h1 : x = 0
  · by_cases h2 : y = 1
    · simp [h1, h2]
    · simp [h1, h2]
  · simp [h1]
theorem nzero_if (x y : Int) (wz : World) : (if x = 0 then if y = 1 then Result.ok (Next.value (Value.bool false)) wz else Result.ok (Next.value (Value.bool true)) wz else Result.ok (Next.value (Value.bool true)) wz) = Result.ok (Next.value (.bool (!zeroB x y))) wz := by
  unfold zeroB
  by_cases h1 : x = 0
  · by_cases h2 : y = 1
    · simp [h1, h2]
    · simp [h1, h2]
  · simp [h1]
theorem zeroB_no {x y : Int} (h : zeroB x y = false) : x = 0 → ¬ y = 1 := fun h1 h2 => by subst h1 h2; cases h
noncomputable def c2 (t : TxD) : Bool := inN (t.fx.toNat, t.fy.toNat) && (inN (t.tx.toNat, t.ty.toNat) && ((zeroB t.fx t.fy == (t.inn == 0)) && (zeroB t.tx t.ty == (t.out == 0))))
noncomputable def c3 (x y : Int) (l : Nat) : Bool := inN (x.toNat, y.toNat) && (!zeroB x y && decide (l = 32))
noncomputable def c4 (t : TxD) : Bool := inPt t.ia t.xa t.ya && (inPt t.ib t.xb t.yb && (inPt t.ic t.xc t.yc && (inN (t.gx.toNat, t.gy.toNat) && decide (t.gz < 72057593894066549))))
def c5 (t : TxD) : Bool := t.inn == 0 && (t.seq != 0 || !(t.gx == 0 && (t.gy == 1 && t.gz == 0)))
/-- May it be? -/
noncomputable def mayB (t : TxD) : Bool := c1 t && (c2 t && (c3 t.n0x t.n0y t.l0 && (c3 t.n1x t.n1y t.l1 && (c4 t && !c5 t))))
noncomputable def okJ (t : TxD) (b : Bool) : Nat → Bool
  | 0 => b
  | 1 => b && c3 t.n0x t.n0y t.l0
  | _ => (b && c3 t.n0x t.n0y t.l0) && c3 t.n1x t.n1y t.l1
theorem idx_n0 (a b c d e f : Value) (W : World) : (Instr.index 29 (.agg #[a, b, c, d, e, f]) (.int .i64 0)).run Try.prog W = .ok (.agg #[a, b, c]) W := by kernel_rfl
theorem idx_n1 (a b c d e f : Value) (W : World) : (Instr.index 29 (.agg #[a, b, c, d, e, f]) (.int .i64 1)).run Try.prog W = .ok (.agg #[d, e, f]) W := by kernel_rfl
theorem sig_if (x y z : Int) (wz : World) : (if x = 0 then if y = 1 then if z = 0 then Result.ok (Next.value (Value.bool false)) wz else Result.ok (Next.value (Value.bool true)) wz else Result.ok (Next.value (Value.bool true)) wz else Result.ok (Next.value (Value.bool true)) wz) = Result.ok (Next.value (.bool (!(x == 0 && (y == 1 && z == 0))))) wz := by
  by_cases h1 : x = 0
  · by_cases h2 : y = 1
    · by_cases h3 : z = 0
      · simp [h1, h2, h3]
      · simp [h1, h2, h3]
    · simp [h1, h2]
  · simp [h1]
theorem sig_no {x y z : Int} (h : (!(x == 0 && (y == 1 && z == 0))) = true) : x = 0 → y = 1 → ¬ z = 0 := fun h1 h2 h3 => by subst h1 h2 h3; cases h
def ChkSaid (b : Bool) (w : World) (e : Ending) (w' : World) : Prop := e = .returned (if b = true then .nilIface else errV 1) ∧ Below w.heap.size w w'
theorem c1_parts {t : TxD} (h : c1 t = true) : (numsL t).any bigN = false ∧ t.inn < 4294967296 ∧ t.out < 4294967296 ∧ t.seq ≤ 1125899906842624 := by
  unfold c1 at h
  simpa only [Bool.and_eq_true, Bool.not_eq_true', decide_eq_true_eq] using h
theorem c2_parts {t : TxD} (h : c2 t = true) : inN (t.fx.toNat, t.fy.toNat) = true ∧ inN (t.tx.toNat, t.ty.toNat) = true ∧ (zeroB t.fx t.fy == (t.inn == 0)) = true ∧ (zeroB t.tx t.ty == (t.out == 0)) = true := by
  unfold c2 at h
  simpa only [Bool.and_eq_true] using h
theorem c3_parts {x y : Int} {l : Nat} (h : c3 x y l = true) : inN (x.toNat, y.toNat) = true ∧ zeroB x y = false ∧ l = 32 := by
  unfold c3 at h
  simpa only [Bool.and_eq_true, Bool.not_eq_true', decide_eq_true_eq] using h
theorem c4_parts {t : TxD} (h : c4 t = true) : inPt t.ia t.xa t.ya = true ∧ inPt t.ib t.xb t.yb = true ∧ inPt t.ic t.xc t.yc = true ∧ inN (t.gx.toNat, t.gy.toNat) = true ∧ t.gz < 72057593894066549 := by
  unfold c4 at h
  simpa only [Bool.and_eq_true, decide_eq_true_eq] using h
theorem parts_ok (t : TxD) (h : TxOk t) (w W : World) (b1 g : Nat) (hR : Row W b1 (txC t) 37) (hG : Row W g #[.int .u64 t.root] 22) : ∀ j (hj : j < (([⟨g, 0, 1, 1, [t.root.toNat]⟩, ⟨b1, 8, 2, 2, [t.e0.toNat, t.e1.toNat]⟩, ⟨b1, 10, 2, 2, [t.m0.toNat, t.m1.toNat]⟩, ⟨b1, 18, 2, 2, [t.a0.toNat, t.a1.toNat]⟩] : List Part)).length), ((([⟨g, 0, 1, 1, [t.root.toNat]⟩, ⟨b1, 8, 2, 2, [t.e0.toNat, t.e1.toNat]⟩, ⟨b1, 10, 2, 2, [t.m0.toNat, t.m1.toNat]⟩, ⟨b1, 18, 2, 2, [t.a0.toNat, t.a1.toNat]⟩] : List Part))[j]).L.length = ((([⟨g, 0, 1, 1, [t.root.toNat]⟩, ⟨b1, 8, 2, 2, [t.e0.toNat, t.e1.toNat]⟩, ⟨b1, 10, 2, 2, [t.m0.toNat, t.m1.toNat]⟩, ⟨b1, 18, 2, 2, [t.a0.toNat, t.a1.toNat]⟩] : List Part))[j]).n ∧ UL W ((([⟨g, 0, 1, 1, [t.root.toNat]⟩, ⟨b1, 8, 2, 2, [t.e0.toNat, t.e1.toNat]⟩, ⟨b1, 10, 2, 2, [t.m0.toNat, t.m1.toNat]⟩, ⟨b1, 18, 2, 2, [t.a0.toNat, t.a1.toNat]⟩] : List Part))[j]).g ((([⟨g, 0, 1, 1, [t.root.toNat]⟩, ⟨b1, 8, 2, 2, [t.e0.toNat, t.e1.toNat]⟩, ⟨b1, 10, 2, 2, [t.m0.toNat, t.m1.toNat]⟩, ⟨b1, 18, 2, 2, [t.a0.toNat, t.a1.toNat]⟩] : List Part))[j]).o ((([⟨g, 0, 1, 1, [t.root.toNat]⟩, ⟨b1, 8, 2, 2, [t.e0.toNat, t.e1.toNat]⟩, ⟨b1, 10, 2, 2, [t.m0.toNat, t.m1.toNat]⟩, ⟨b1, 18, 2, 2, [t.a0.toNat, t.a1.toNat]⟩] : List Part))[j]).L ∧ ((([⟨g, 0, 1, 1, [t.root.toNat]⟩, ⟨b1, 8, 2, 2, [t.e0.toNat, t.e1.toNat]⟩, ⟨b1, 10, 2, 2, [t.m0.toNat, t.m1.toNat]⟩, ⟨b1, 18, 2, 2, [t.a0.toNat, t.a1.toNat]⟩] : List Part))[j]).g < W.heap.size := by
  intro j hj
  have two : ∀ (o : Nat) (x y : Int), 0 ≤ x → 0 ≤ y → W.cell? ⟨b1, o, none⟩ = some (.int .u64 x) → W.cell? ⟨b1, o + 1, none⟩ = some (.int .u64 y) → UL W b1 o [x.toNat, y.toNat] := fun o x y hx hy h1 h2 i hi => by
    match i, hi with
    | 0, _ =>
      show W.cell? ⟨b1, o, none⟩ = some (.int .u64 ((x.toNat : Nat) : Int))
      rw [Int.toNat_of_nonneg hx]; exact h1
    | 1, _ =>
      show W.cell? ⟨b1, o + 1, none⟩ = some (.int .u64 ((y.toNat : Nat) : Int))
      rw [Int.toNat_of_nonneg hy]; exact h2
  match j, hj with
  | 0, _ => exact ⟨rfl, fun i hi => by
      obtain rfl : i = 0 := Nat.lt_one_iff.1 hi
      show W.cell? ⟨g, 0, none⟩ = some (.int .u64 ((t.root.toNat : Nat) : Int))
      rw [Int.toNat_of_nonneg h.root0]; exact hG.cell 0 rfl, hG.lt⟩
  | 1, _ => exact ⟨rfl, two 8 t.e0 t.e1 h.e00 h.e10 (hR.cell 8 rfl) (hR.cell 9 rfl), hR.lt⟩
  | 2, _ => exact ⟨rfl, two 10 t.m0 t.m1 h.m00 h.m10 (hR.cell 10 rfl) (hR.cell 11 rfl), hR.lt⟩
  | 3, _ => exact ⟨rfl, two 18 t.a0 t.a1 h.a00 h.a10 (hR.cell 18 rfl) (hR.cell 19 rfl), hR.lt⟩

end Go.Proofs.Ytkfimfjjmdjbdaa
