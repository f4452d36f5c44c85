import Derived.Test.YtallfmiikjmgaaaDoorMD
import Derived.Test.YtallfmiikjmgaaaDoorME
import Derived.Deep.CutBlock
import Derived.Deep.DeepCutAuto
set_option linter.unusedVariables false
set_option linter.unusedSimpArgs false
/- Walks: package cipher: a number of limbs, modulo 2^130 - 5, in 17 bytes. -/
namespace Obol
theorem whole_step {d : List Nat} (h : LB 67108874 d) {R H : Nat} (hR : R ≤ 50000000000) (hv : (valL d + 5 * R) % P130 = H) :
    LB 260000000000 (d.set 0 (d.getD 0 0 + 5 * R)) ∧ (valL (cpass (d.set 0 (d.getD 0 0 + 5 * R)) 5).1 + 5 * (cpass (d.set 0 (d.getD 0 0 + 5 * R)) 5).2) % P130 = H ∧ LB 67108874 (cpass (d.set 0 (d.getD 0 0 + 5 * R)) 5).1 ∧ (cpass (d.set 0 (d.getD 0 0 + 5 * R)) 5).2 ≤ 50000000000 ∧ (∀ i, (cpass (d.set 0 (d.getD 0 0 + 5 * R)) 5).1.getD i 0 < 67108864) ∧
    (0 < R → valL (cpass (d.set 0 (d.getD 0 0 + 5 * R)) 5).1 + (cpass (d.set 0 (d.getD 0 0 + 5 * R)) 5).2 * 1361129467683753853853498429727072845824 < valL d + R * 1361129467683753853853498429727072845824) := by
  have h0 := h.le 0
  have hL : LB 260000000000 (d.set 0 (d.getD 0 0 + 5 * R)) := h.put (by omega) _ _ (by omega)
  have hv2 : valL (d.set 0 (d.getD 0 0 + 5 * R)) = valL d + 5 * R := by
    rw [valL_vR, vR_set 67108864 _ 0 _ (by rw [h.len]; omega) 5 (by omega), valL_vR]; omega
  have hb := cpass_b hL (by omega) (by omega) 5
  obtain ⟨e1, e2, e3, e4⟩ := cpass_val hL.len
  refine ⟨hL, ?_, ⟨e2, fun i => by have := e3 i; omega⟩, hb.2, e3, fun hp => ?_⟩
  · rw [e1, e4, hv2, fold_mod, hv]
  · rw [e1, e4, hv2]; omega
theorem whole_first {h : List Nat} (hh : LB 268435456 h) :
    (valL (cpass h 5).1 + 5 * (cpass h 5).2) % P130 = valL h % P130 ∧ LB 67108874 (cpass h 5).1 ∧ (cpass h 5).2 ≤ 50000000000 ∧ ∀ i, (cpass h 5).1.getD i 0 < 67108864 := by
  obtain ⟨e1, e2, e3, e4⟩ := cpass_val hh.len
  refine ⟨by rw [e1, e4, fold_mod], ⟨e2, fun i => by have := e3 i; omega⟩, (cpass_b hh (by omega) (by omega) 5).2, e3⟩
/-- Behind the last carry: the lesser of two. -/
theorem whole_last {d : List Nat} (h : LB 67108874 d) (hs : ∀ i, d.getD i 0 < 67108864) :
    LB 260000000000 (d.set 0 (d.getD 0 0 + 5)) ∧ (∀ i, (cpass (d.set 0 (d.getD 0 0 + 5)) 5).1.getD i 0 < 67108864) ∧ (cpass (d.set 0 (d.getD 0 0 + 5)) 5).1.length = 5 ∧
    valL (if 0 < (cpass (d.set 0 (d.getD 0 0 + 5)) 5).2 then (cpass (d.set 0 (d.getD 0 0 + 5)) 5).1 else d) = valL d % P130 := by
  have h0 := h.le 0
  have hL : LB 260000000000 (d.set 0 (d.getD 0 0 + 5)) := h.put (by omega) _ _ (by omega)
  have hv2 : valL (d.set 0 (d.getD 0 0 + 5)) = valL d + 5 := by
    rw [valL_vR, vR_set 67108864 _ 0 _ (by rw [h.len]; omega) 5 (by omega), valL_vR]
  have hlt : valL d < 1361129467683753853853498429727072845824 := by rw [valL_vR]; exact vR_lt 67108864 hs 5
  obtain ⟨e1, e2, e3, e4⟩ := cpass_val hL.len
  refine ⟨hL, e3, e2, ?_⟩
  unfold P130
  split
  · rename_i hq
    rw [e1, hv2] at hq
    rw [e4, hv2]; omega
  · rename_i hq
    rw [e1, hv2] at hq
    omega
/-- A bit of what the limbs say. -/
theorem limb_bit {d : List Nat} (_ : d.length = 5) (hs : ∀ i, d.getD i 0 < 67108864) {i : Nat} (hi : i < 130) : d.getD (i / 26) 0 / 2 ^ (i % 26) % 2 = valL d / 2 ^ i % 2 := by
  have h1 := vR_dig 67108864 (by decide) d (i / 26) 5 (by omega)
  have h2 := vR_lt 67108864 hs (i / 26)
  rw [Nat.div_eq_of_lt h2, Nat.zero_add, Nat.mod_eq_of_lt (hs _)] at h1
  have e : 2 ^ i = 67108864 ^ (i / 26) * 2 ^ (i % 26) := by
    rw [show (67108864 : Nat) = 2 ^ 26 from rfl, ← Nat.pow_mul, ← Nat.pow_add, Nat.div_add_mod]
  rw [valL_vR, e, ← Nat.div_div_eq_div_mul, h1]
  generalize vR 67108864 d 5 / 67108864 ^ (i / 26) = X
  have hm : i % 26 < 26 := Nat.mod_lt _ (by decide)
  obtain ⟨q, hq⟩ : ∃ q, (67108864 : Nat) = 2 ^ (i % 26) * (2 * q) := ⟨2 ^ (25 - i % 26), by
    have : (2 : Nat) ^ 26 = 2 ^ (i % 26) * (2 * 2 ^ (25 - i % 26)) := by
      rw [← Nat.pow_succ', ← Nat.pow_add]; congr 1; omega
    exact this⟩
  rw [hq, Nat.mod_mul_right_div_self, Nat.mod_mul_right_mod]
end Obol
namespace Go.Proofs.YtallfmiikjmgaaaDoor
open Go.RowKit

theorem HR.turn {w w1 w2 : World} {rs : List (Nat × Array Value × TypeId)} {k : Nat} {cs cs' : Array Value} {t : TypeId} (h : HR w w1 ((k, cs, t) :: rs)) (hne : ∀ r ∈ rs, r.1 ≠ k) (hk : w.heap.size ≤ k) (hr : Row w2 k cs' t) (hb : Below k w1 w2) (ho : ∀ c ds u, c ≠ k → Row w1 c ds u → Row w2 c ds u) : HR w w2 ((k, cs', t) :: rs) :=
  ⟨fun r hm => by
    rcases List.mem_cons.1 hm with rfl | hm
    · exact hr
    · exact ho _ _ _ (hne r hm) (h.1 r (List.mem_cons_of_mem _ hm)), h.2.trans (hb.mono hk)⟩
theorem HR.laid {w w1 : World} {rs : List (Nat × Array Value × TypeId)} (h : HR w w1 rs) (z cs : Array Value) (t : TypeId) (hs : cs.size = z.size) : HR w ((w1.alloc (.cells z t)).setCells w1.heap.size 0 cs.toList.toArray.toList) ((w1.heap.size, cs, t) :: rs) := by
  rw [Array.toArray_toList]
  exact ⟨fun r hm => by
    rcases List.mem_cons.1 hm with rfl | hm
    · exact (Row.new w1 z t).store cs hs
    · exact Row.otherMany (Nat.ne_of_lt (h.1 r hm).lt) _ _ _ ((h.1 r hm).alloc _), bSetMany h.2.size _ _ _ (bAlloc h.2 _)⟩
theorem HR.over {w w1 : World} {rs : List (Nat × Array Value × TypeId)} {k : Nat} {z : Array Value} {t : TypeId} (h : HR w w1 ((k, z, t) :: rs)) (hne : ∀ r ∈ rs, r.1 ≠ k) (hk : w.heap.size ≤ k) (cs : Array Value) (hs : cs.size = z.size) : HR w (w1.setCells k 0 cs.toList.toArray.toList) ((k, cs, t) :: rs) := by
  rw [Array.toArray_toList]
  exact ⟨fun r hm => by
    rcases List.mem_cons.1 hm with rfl | hm
    · exact (h.1 (_, z, _) (List.mem_cons_self ..)).store cs hs
    · exact Row.otherMany (hne r hm) _ _ _ (h.1 r (List.mem_cons_of_mem _ hm)), bSetMany hk _ _ _ h.2⟩
theorem HR.laidL {w w1 : World} {rs : List (Nat × Array Value × TypeId)} (h : HR w w1 rs) (z cs : Array Value) (t : TypeId) (hs : cs.size = z.size) : HR w ((w1.alloc (.cells z t)).setCells w1.heap.size 0 cs.toList) ((w1.heap.size, cs, t) :: rs) := by
  have h := h.laid z cs t hs
  rwa [Array.toArray_toList] at h
theorem HR.overL {w w1 : World} {rs : List (Nat × Array Value × TypeId)} {k : Nat} {z : Array Value} {t : TypeId} (h : HR w w1 ((k, z, t) :: rs)) (hne : ∀ r ∈ rs, r.1 ≠ k) (hk : w.heap.size ≤ k) (cs : Array Value) (hs : cs.size = z.size) : HR w (w1.setCells k 0 cs.toList) ((k, cs, t) :: rs) := by
  have h := h.over hne hk cs hs
  rwa [Array.toArray_toList] at h
theorem HR.set8 {w w1 : World} {rs : List (Nat × Array Value × TypeId)} {D : Nat} {L : List Nat} {t : TypeId} (h : HR w w1 ((D, u8s L, t) :: rs)) (hne : ∀ r ∈ rs, r.1 ≠ D) (hD : w.heap.size ≤ D) (o Z : Nat) {z : Int} (hz : z = (Z : Int)) : HR w (w1.setCell ⟨D, o, none⟩ (.int .u8 z)) ((D, u8s (L.set o Z), t) :: rs) := by
  have h2 := h.put hne hD o (.int .u8 z)
  have e : (u8s L).setIfInBounds o (.int .u8 z) = u8s (L.set o Z) := by
    unfold u8s
    rw [List.setIfInBounds_toArray, List.map_set, hz]
  rw [← e]
  exact h2
theorem u8s_one (L : List Nat) : (u8s L).all (·.oneCell') = true := by
  have : (u8s L).toList.toArray.all (·.oneCell') = true := all_oneCell_toArray (by unfold u8s; simp; intro v _; rfl)
  rwa [Array.toArray_toList] at this
theorem und17 : Tryd.prog.underlying 126 = some (.array 17 5) := by kernel_rfl
theorem siz17 : (Tryd.prog.info? 126).map (·.size) = some 17 := by kernel_rfl
/-- What five cells say, and a rest. -/
def cellN (w : World) (b i : Nat) : Nat := match w.cell? ⟨b, i, none⟩ with
  | some (.int _ z) => z.toNat
  | _ => 0
def wmeas0 (b : Nat) (w : World) (q : Value) : Nat := cellN w b 0 + cellN w b 1 * 67108864 + cellN w b 2 * 4503599627370496 + cellN w b 3 * 302231454903657293676544 + cellN w b 4 * 20282409603651670423947251286016 + (intOf q).toNat * 1361129467683753853853498429727072845824
noncomputable def wmeas : Nat → World → Value → Nat := (Obol.shutN wmeas0).1
theorem wmeas_eq : wmeas = wmeas0 := (Obol.shutN wmeas0).2
theorem wmeas_row {b : Nat} {w : World} {d : List Nat} {t : TypeId} (h : Row w b (u64s d) t) (hl : d.length = 5) (R : Nat) : wmeas b w (.int .u64 (R : Int)) = Obol.valL d + R * 1361129467683753853853498429727072845824 := by
  have hc : ∀ i, i < 5 → cellN w b i = d.getD i 0 := fun i hi => by
    unfold cellN
    rw [h.cell i (u64s_get i (by omega))]
    rfl
  rw [wmeas_eq]
  unfold wmeas0 Obol.valL
  rw [hc 0 (by omega), hc 1 (by omega), hc 2 (by omega), hc 3 (by omega), hc 4 (by omega)]
  rfl
theorem or_bit {p q : Int} {P Q k : Nat} (hp : p = (P : Int)) (hq : q = ((Q * 2 ^ k : Nat) : Int)) (h1 : P < 2 ^ k) (hQ : Q < 2) (hk : k < 8) : bits .or .u8 p q = ((P + Q * 2 ^ k : Nat) : Int) := by
  subst hp hq
  have h2 : 2 ^ k ≤ 128 := Nat.pow_le_pow_right (by decide) (show k ≤ 7 by omega)
  have h3 : Q * 2 ^ k ≤ 1 * 2 ^ k := Nat.mul_le_mul_right _ (by omega)
  rw [u8_or_nat P (Q * 2 ^ k) (by omega) (by omega), Nat.or_comm, Nat.mul_comm, ← Nat.two_pow_add_eq_or_of_lt h1, Nat.add_comm]
theorem bit_is {p x i : Int} {P X j : Nat} (hp : (P : Int) = p) (hx : (X : Int) = x) (hi : (j : Int) = i) (hX : X < 67108864) (h1 : P < 2 ^ (j % 8)) :
    bits .or .u8 p (bits .and .u64 (x / 2 ^ (i % 26).toNat) 1 % 256 * 2 ^ (i % 8).toNat % 256) = ((P + X / 2 ^ (j % 26) % 2 * 2 ^ (j % 8) : Nat) : Int) := by
  subst hp hx hi
  have e1 : ((j : Int) % 26).toNat = j % 26 := by omega
  have e2 : ((j : Int) % 8).toNat = j % 8 := by omega
  have e3 : (X : Int) / 2 ^ (j % 26) = ((X / 2 ^ (j % 26) : Nat) : Int) := by rw [Int.natCast_ediv, Int.natCast_pow]; rfl
  have h3 : X / 2 ^ (j % 26) ≤ X := Nat.div_le_self _ _
  rw [e1, e2, e3]
  have h2 : 2 ^ (j % 8) ≤ 128 := Nat.pow_le_pow_right (by decide) (show j % 8 ≤ 7 by omega)
  generalize X / 2 ^ (j % 26) = Y at h3 ⊢
  rw [and_1 (by omega) (by omega)]
  have e4 : ((Y : Int) % 2) % 256 = ((Y % 2 : Nat) : Int) := by omega
  have e5 : ((Y % 2 : Nat) : Int) * 2 ^ (j % 8) = ((Y % 2 * 2 ^ (j % 8) : Nat) : Int) := by rw [Int.natCast_mul, Int.natCast_pow]; rfl
  have h4 : Y % 2 * 2 ^ (j % 8) ≤ 1 * 2 ^ (j % 8) := Nat.mul_le_mul_right _ (by omega)
  rw [e4, e5]
  exact or_bit rfl (by omega) h1 (Nat.mod_lt _ (by decide)) (Nat.mod_lt _ (by decide))

set_option maxRecDepth 8000 in
set_option maxHeartbeats 8000000 in
theorem qWhole (h : List Nat) (hh : Obol.LB 268435456 h) (w : World) :
    Calls Tryd.prog 107 #[.agg (u64s h)] w fun e w' => e = .returned (.agg (u8s (Obol.digs 17 (Obol.valL h % Obol.P130)))) ∧ Below w.heap.size w w' := by
  have HH := Lib.hid hh
  obtain ⟨HV, hHV⟩ : ∃ V, Obol.valL h % Obol.P130 = V := ⟨_, rfl⟩
  rw [hHV]
  have HF := Lib.hid (Obol.whole_first hh)
  rw [hHV] at HF
  clear hHV hh
  go_enter Tryd.func107, Tryd.ntmps107
  go_upto_region 1 with fail
  have H0 := Lib.hid (((HR.refl w).new (u64s h) 127).new (u8s (zs 17)) 126)
  simp only [World.size_alloc] at H0
  change Code.wp _ _ _ _ ((w.alloc (.cells (u64s h) 127)).alloc (.cells (u8s (zs 17)) 126))
  generalize (w.alloc (.cells (u64s h) 127)).alloc (.cells (u8s (zs 17)) 126) = w1 at H0 ⊢
  obtain ⟨b1, h1⟩ : ∃ x, w.heap.size + 1 = x := ⟨_, rfl⟩
  rw [h1] at H0 ⊢
  obtain ⟨b0, h0⟩ : ∃ x, w.heap.size = x := ⟨_, rfl⟩
  have ho : Hid (w.heap.size ≤ b0 ∧ b0 < b1) := Lib.hid (by omega)
  have H1 : Hid (HR w w1 [(b0, u64s h, 127), (b1, u8s (zs 17), 126)]) := Lib.hid (by rw [← h0]; exact H0.out.sub (by simp))
  rw [h0]
  replace h0 := Lib.hid h0
  replace h1 := Lib.hid h1
  clear H0
  have cC := Lib.hid (fun (b0 : Nat) (d : List Nat) (M : Nat) (hd : Obol.LB M d) (hM : 67108864 ≤ M) (hM2 : M ≤ 3000000000000000000) W (hR : Row W b0 (u64s d) 127) => qCarry b0 d M hd hM hM2 W hR)
  have hr0 := H1.out.row (b := b0) (cs := u64s h) (t := 127) (by simp)
  have c1 := Lib.hid (cC.out b0 h _ HH.out (by omega) (by omega) w1 hr0)
  clear hr0
  go_wp2_with (go_at_call 114; refine c1.out.mono ?_; rintro e w2 ⟨rfl, hR2, hB2, hO2⟩)
  have H2 := Lib.hid (H1.out.turn (by simp; have := ho.out; omega) ho.out.1 hR2 hB2 hO2)
  clear hR2 hB2 hO2 H1 c1
  go_loopw [4] (fun q1 wr => ∃ (d : List Nat) (R : Nat), q1 = .int .u64 (R : Int) ∧ Hid ((Obol.valL d + 5 * R) % Obol.P130 = HV ∧ Obol.LB 67108874 d ∧ R ≤ 50000000000 ∧ ∀ i, d.getD i 0 < 67108864) ∧ Hid (HR w wr [(b0, u64s d, 127), (b1, u8s (zs 17), 126)])) (fun q1 wr => wmeas b0 wr q1)
  case atStart => exact ⟨_, _, rfl, Lib.hid ⟨HF.out.1, HF.out.2.1, HF.out.2.2.1, HF.out.2.2.2⟩, H2⟩
  case round =>
    clear H2 HF HH
    rename World => wr
    obtain ⟨d, R, rfl, hd, H⟩ := hrel
    obtain ⟨r, hr⟩ : ∃ r : Int, (R : Int) = r := ⟨_, rfl⟩
    have hd2 := hd.out.2.2.1
    have hd3 := hd.out.2.2.2 0
    have hm := wmeas_row (H.out.row (b := b0) (cs := u64s d) (t := 127) (by simp)) hd.out.2.1.len R
    obtain ⟨v, hv⟩ : ∃ v : Int, ((d.getD 0 0 : Nat) : Int) = v := ⟨_, rfl⟩
    have v0 : 0 ≤ v := by omega
    have v1 : v ≤ 67108864 := by omega
    have r1 : r ≤ 50000000000 := by omega
    by_cases hR0 : 0 < R
    · rw [hr] at hm ⊢
      have r0 : 0 < r := by omega
      replace hm := Lib.hid hm
      have hs := Lib.hid (Obol.whole_step hd.out.2.1 hd.out.2.2.1 hd.out.1)
      have w5 := u64w (x := 5 * r) (by omega) (by omega)
      have wv := u64w (x := v + 5 * r) (by omega) (by omega)
      have c := H.out.cell (b := b0) (cs := u64s d) (t := 127) (by simp) 0 (v := .int .u64 v) ((u64s_get 0 (by rw [hd.out.2.1.len]; omega)).trans (by rw [hv]))
      have f := H.out.free (b := b0) (cs := u64s d) (t := 127) (by simp) 0
      have HN := Lib.hid (HR.setU H.out (by simp; have := ho.out; omega) ho.out.1 0 (d.getD 0 0 + 5 * R) (z := v + 5 * r) (by rw [← hv, ← hr]; simp))
      obtain ⟨D2, hD2⟩ : ∃ x, d.set 0 (d.getD 0 0 + 5 * R) = x := ⟨_, rfl⟩
      rw [hD2] at HN hs
      have c2 := Lib.hid (cC.out b0 D2 _ hs.out.1 (by omega) (by omega) _ (HN.out.row (b := b0) (cs := u64s D2) (t := 127) (by simp)))
      obtain ⟨E, hE⟩ : ∃ x, (Obol.cpass D2 5).1 = x := ⟨_, rfl⟩
      obtain ⟨Q, hQ⟩ : ∃ x, (Obol.cpass D2 5).2 = x := ⟨_, rfl⟩
      rw [hE, hQ] at hs c2
      clear hD2 hE hQ
      replace hv := Lib.hid hv
      replace hr := Lib.hid hr
      clear hd2 hd3 H
      go_wp2_with (go_at_call 114; refine c2.out.mono ?_; rintro e w3 ⟨rfl, hR3, hB3, hO3⟩)
      have H3 := Lib.hid (HN.out.turn (by simp; have := ho.out; omega) ho.out.1 hR3 hB3 hO3)
      have hm3 := Lib.hid (wmeas_row hR3 hs.out.2.2.1.len Q)
      clear hR3 hB3 hO3 c2 HN
      go_roundw
      case rel => exact ⟨_, _, rfl, Lib.hid ⟨hs.out.2.1, hs.out.2.2.1, hs.out.2.2.2.1, hs.out.2.2.2.2.1⟩, H3⟩
      case measure => rw [hm3.out, hm.out]; exact hs.out.2.2.2.2.2 hR0
    · obtain rfl : R = 0 := by omega
      obtain rfl : r = 0 := by omega
      clear hm hr hd2 r1
      have hl := Lib.hid (Obol.whole_last hd.out.2.1 hd.out.2.2.2)
      have hVd : Hid (Obol.valL d % Obol.P130 = HV) := Lib.hid (by have h := hd.out.1; rw [Nat.mul_zero, Nat.add_zero] at h; exact h)
      have hn : (u64s d).size = 5 := by rw [u64s_n, hd.out.2.1.len]
      have h1 : (u64s d).toList.toArray.all (·.oneCell') = true := by rw [Array.toArray_toList]; exact u64s_one d
      have R0 := Lib.hid (H.out.row (b := b0) (cs := u64s d) (t := 127) (by simp))
      have hth : (wr.alloc (.cells (u64s [0, 0, 0, 0, 0]) 127)).there wr.heap.size 0 (u64s d).toList.toArray.size := by rw [Array.toArray_toList, hn, ← (show (u64s [0, 0, 0, 0, 0]).size = 5 from rfl)]; exact (Row.new _ _ _).there
      have H4 := Lib.hid (H.out.laid (u64s [0, 0, 0, 0, 0]) (u64s d) 127 (by rw [hn]; rfl))
      have hb1 := H.out.lt (b := b1) (cs := u8s (zs 17)) (t := 126) (by simp)
      clear H
      go_upto_region 7 with (first
            | (refine wpList_load_mid rfl _ _ rfl b0 0 rfl (u64s d).toList _ R0.out.range und5 rfl (by rw [siz5]; simp [hn]) ?_)
            | (refine wpList_store_mid rfl _ _ _ rfl wr.heap.size 0 (u64s d).toList.toArray rfl rfl hth (by rw [siz5]; simp [hn]) h1 ?_))
      change Code.wp _ _ _ _ ((wr.alloc (.cells (u64s [0, 0, 0, 0, 0]) 127)).setCells wr.heap.size 0 (u64s d).toList.toArray.toList)
      generalize (wr.alloc (.cells (u64s [0, 0, 0, 0, 0]) 127)).setCells wr.heap.size 0 (u64s d).toList.toArray.toList = w4 at H4 ⊢
      obtain ⟨b2, hb2⟩ : ∃ x, wr.heap.size = x := ⟨_, rfl⟩
      rw [hb2] at H4 hb1 ⊢
      replace hb2 := Lib.hid hb2
      clear hth R0 h1
      have c := H4.out.cell (b := b2) (cs := u64s d) (t := 127) (by simp) 0 (v := .int .u64 v) ((u64s_get 0 (by rw [hd.out.2.1.len]; omega)).trans (by rw [hv]))
      have f := H4.out.free (b := b2) (cs := u64s d) (t := 127) (by simp) 0
      have wv := u64w (x := v + 5) (by omega) (by omega)
      have hne : Hid (w.heap.size ≤ b2 ∧ b0 ≠ b2 ∧ b1 ≠ b2) := Lib.hid (by have := ho.out; omega)
      have HN := Lib.hid (HR.setU H4.out (by simp; have := hne.out; omega) hne.out.1 0 (d.getD 0 0 + 5) (z := v + 5) (by rw [← hv]; simp))
      obtain ⟨d5, hd5⟩ : ∃ x, d.set 0 (d.getD 0 0 + 5) = x := ⟨_, rfl⟩
      rw [hd5] at HN hl
      have c2 := Lib.hid (cC.out b2 d5 _ hl.out.1 (by omega) (by omega) _ (HN.out.row (b := b2) (cs := u64s d5) (t := 127) (by simp)))
      replace hv := Lib.hid hv
      clear H4 hd3 hd5
      go_upto_if 27 with (go_at_call 114; refine c2.out.mono ?_; rintro e w5 ⟨rfl, hR3, hB3, hO3⟩)
      have H5 := Lib.hid (HN.out.turn (by simp; have := hne.out; omega) hne.out.1 hR3 hB3 hO3)
      have R2 := Lib.hid hR3
      clear hR3 hB3 hO3 c2 HN c f wv cC
      obtain ⟨G, hG⟩ : ∃ x, (Obol.cpass d5 5).1 = x := ⟨_, rfl⟩
      obtain ⟨q, hq⟩ : ∃ x, (Obol.cpass d5 5).2 = x := ⟨_, rfl⟩
      rw [hG] at H5 R2 hl
      rw [hq] at hl ⊢
      obtain ⟨x, hx⟩ : ∃ x : Int, (q : Int) = x := ⟨_, rfl⟩
      rw [hx]
      clear hG hq
      go_cut [] (fun wc => ∃ F : List Nat, Hid (F.length = 5 ∧ (∀ i, F.getD i 0 < 67108864) ∧ Obol.valL F = HV) ∧ Hid (HR w wc [(b0, u64s F, 127), (b1, u8s (zs 17), 126)]))
      case first =>
        by_cases hq0 : 0 < q
        · have x0 : 0 < x := by omega
          have hn2 : (u64s G).size = 5 := by rw [u64s_n, hl.out.2.2.1]
          have hth : w5.there b0 0 (u64s G).toList.toArray.size := by rw [Array.toArray_toList, hn2, ← hn]; exact (H5.out.row (b := b0) (cs := u64s d) (t := 127) (by simp)).there
          have h1 : (u64s G).toList.toArray.all (·.oneCell') = true := by rw [Array.toArray_toList]; exact u64s_one G
          have H6 := Lib.hid (HR.over (H5.out.sub (qs := [(b0, u64s d, 127), (b1, u8s (zs 17), 126)]) (by simp)) (by simp; have := ho.out; omega) ho.out.1 (u64s G) (by rw [hn, hn2]))
          have hVG : Hid (Obol.valL G = HV) := Lib.hid (by have h := hl.out.2.2.2; rw [if_pos hq0] at h; rw [h]; exact hVd.out)
          replace hx := Lib.hid hx
          clear H5
          go_wp2_with (first
            | (refine wpList_load_mid rfl _ _ rfl b2 0 rfl (u64s G).toList _ R2.out.range und5 rfl (by rw [siz5]; simp [hn2]) ?_)
            | (refine wpList_store_mid rfl _ _ _ rfl b0 0 (u64s G).toList.toArray rfl rfl hth (by rw [siz5]; simp [hn2]) h1 ?_))
          go_meet
          exact ⟨G, Lib.hid ⟨hl.out.2.2.1, hl.out.2.1, hVG.out⟩, H6⟩
        · have x0 : ¬ 0 < x := by omega
          have hVG : Hid (Obol.valL d = HV) := Lib.hid (by have h := hl.out.2.2.2; rw [if_neg hq0] at h; rw [h]; exact hVd.out)
          have H6 := Lib.hid (H5.out.sub (qs := [(b0, u64s d, 127), (b1, u8s (zs 17), 126)]) (by simp))
          replace hx := Lib.hid hx
          go_wp2_with fail
          go_meet
          exact ⟨d, Lib.hid ⟨hd.out.2.1.len, hd.out.2.2.2, hVG.out⟩, H6⟩
      case' rest =>
        rename World => wz
        obtain ⟨F, hF, H⟩ := hcut
      clear H5 R2 hl hd hVd hn v0 v1 hv hx hne hb1 hb2
      go_upto_region 11 with fail
      have H7 := Lib.hid (H.out.new (u8s (zs 17)) 126)
      change Code.wp _ _ _ _ (wz.alloc (.cells (u8s (zs 17)) 126))
      have hb1 := H.out.lt (b := b1) (cs := u8s (zs 17)) (t := 126) (by simp)
      clear H
      generalize wz.alloc (.cells (u8s (zs 17)) 126) = w7 at H7 ⊢
      obtain ⟨b3, hb3⟩ : ∃ x, wz.heap.size = x := ⟨_, rfl⟩
      rw [hb3] at H7 hb1 ⊢
      replace hb3 := Lib.hid hb3
      have hne : Hid (w.heap.size ≤ b3 ∧ b0 ≠ b3 ∧ b1 ≠ b3) := Lib.hid (by have := ho.out; omega)
      have H8 : Hid (HR w w7 [(b3, u8s (Obol.digs 17 (HV % 2 ^ 0)), 126), (b0, u64s F, 127), (b1, u8s (zs 17), 126)]) := Lib.hid (by
        rw [Nat.pow_zero, Nat.mod_one, show Obol.digs 17 0 = zs 17 by decide]
        exact H7.out)
      clear H7
      go_wp2_with fail
      go_loopw [29] (fun q1 wr => ∃ j : Nat, q1 = .int .i64 (j : Int) ∧ j ≤ 130 ∧ Hid (HR w wr [(b3, u8s (Obol.digs 17 (HV % 2 ^ j)), 126), (b0, u64s F, 127), (b1, u8s (zs 17), 126)])) (fun q1 _ => (130 - intOf q1).toNat)
      case atStart => exact ⟨0, rfl, by omega, H8⟩
      case round =>
        clear H8
        rename World => wr
        obtain ⟨j, rfl, hj, H⟩ := hrel
        obtain ⟨i, hi⟩ : ∃ i : Int, (j : Int) = i := ⟨_, rfl⟩
        rw [hi]
        have i0 : 0 ≤ i := by omega
        by_cases hj130 : j < 130
        · have i1 : i < 130 := by omega
          have t8 : i.tdiv 8 = i / 8 := Int.tdiv_eq_ediv_of_nonneg i0
          have t26 : i.tdiv 26 = i / 26 := Int.tdiv_eq_ediv_of_nonneg i0
          have m8 : i.tmod 8 = i % 8 := Int.tmod_eq_emod_of_nonneg i0
          have m26 : i.tmod 26 = i % 26 := Int.tmod_eq_emod_of_nonneg i0
          obtain ⟨hd1, hd2⟩ := Obol.digs_bit 17 HV j (by omega) _ rfl
          have hlb := Obol.limb_bit hF.out.1 hF.out.2.1 hj130
          rw [hF.out.2.2] at hlb
          obtain ⟨p, hp⟩ : ∃ p : Int, (((Obol.digs 17 (HV % 2 ^ j)).getD (i / 8).toNat 0 : Nat) : Int) = p := ⟨_, rfl⟩
          obtain ⟨x, hx⟩ : ∃ x : Int, ((F.getD (i / 26).toNat 0 : Nat) : Int) = x := ⟨_, rfl⟩
          have hFs := hF.out.2.1 (i / 26).toNat
          have hps := Obol.digs_lt 17 (HV % 2 ^ j) (i / 8).toNat
          have x0 : 0 ≤ x := by omega
          have x1 : x ≤ 67108863 := by omega
          have p0 : 0 ≤ p := by omega
          have p1 : p ≤ 255 := by omega
          have c := H.out.cell (b := b3) (cs := u8s (Obol.digs 17 (HV % 2 ^ j))) (t := 126) (by simp) (i / 8).toNat (v := .int .u8 p) ((u8s_get _ _ (by rw [Obol.digs_len]; omega)).trans (by rw [hp]))
          have f := H.out.free (b := b3) (cs := u8s (Obol.digs 17 (HV % 2 ^ j))) (t := 126) (by simp) (i / 8).toNat
          have cF := H.out.cell (b := b0) (cs := u64s F) (t := 127) (by simp) (i / 26).toNat (v := .int .u64 x) ((u64s_get _ (by rw [hF.out.1]; omega)).trans (by rw [hx]))
          have hz := bit_is hp hx hi hFs (by rw [show (i / 8).toNat = j / 8 by omega]; exact hd1)
          have HN := (HR.set8 H.out (by simp; have := hne.out; omega) hne.out.1 (i / 8).toNat _ hz).drew
          rw [show (i / 8).toNat = j / 8 by omega, show (i / 26).toNat = j / 26 by omega, hlb, hd2] at HN
          have HN2 : Hid (HR w (wr.setCell ⟨b3, (i / 8).toNat, none⟩ (.int .u8 (bits .or .u8 p (bits .and .u64 (x / 2 ^ (i % 26).toNat) 1 % 256 * 2 ^ (i % 8).toNat % 256)))).drew [(b3, u8s (Obol.digs 17 (HV % 2 ^ (j + 1))), 126), (b0, u64s F, 127), (b1, u8s (zs 17), 126)]) := Lib.hid (by
            rw [show (i / 8).toNat = j / 8 by omega]; exact HN)
          replace hp := Lib.hid hp
          replace hx := Lib.hid hx
          clear hFs hps hz HN hd1 hd2 hlb H
          go_wp2_with fail
          go_region
          go_wp2_with fail
          exact ⟨⟨j + 1, by simp; omega, by omega, HN2⟩, by simp [intOf]; omega⟩
        · obtain rfl : j = 130 := by omega
          have i1 : ¬ i < 130 := by omega
          have hEq : Hid (HV % 2 ^ 130 = HV) := Lib.hid (Nat.mod_eq_of_lt (by
            have h5 := Obol.vR_lt 67108864 hF.out.2.1 5
            rw [← Obol.valL_vR, hF.out.2.2] at h5
            exact Nat.lt_of_lt_of_le h5 (by decide)))
          have H9 := H.out
          rw [hEq.out] at H9
          replace H9 := Lib.hid H9
          clear H
          obtain ⟨O, hO⟩ : ∃ x, Obol.digs 17 HV = x := ⟨_, rfl⟩
          have hOl : O.length = 17 := by rw [← hO, Obol.digs_len]
          rw [hO] at H9
          replace hO := Lib.hid hO
          have hn : (u8s O).size = 17 := by rw [u8s_size, hOl]
          have h1 : (u8s O).toList.toArray.all (·.oneCell') = true := by rw [Array.toArray_toList]; exact u8s_one O
          have hth : wr.there b1 0 (u8s O).toList.toArray.size := by rw [Array.toArray_toList, hn, ← (show (u8s (zs 17)).size = 17 by simp [u8s_size])]; exact (H9.out.row (b := b1) (cs := u8s (zs 17)) (t := 126) (by simp)).there
          have R3 := Lib.hid (H9.out.row (b := b3) (cs := u8s O) (t := 126) (by simp))
          have HZ := HR.over (H9.out.sub (qs := [(b1, u8s (zs 17), 126)]) (by simp)) (by simp) (by have := ho.out; omega) (u8s O) (by simp [u8s_size, hOl])
          go_wp2_with (first | (refine wpList_load_mid rfl _ _ rfl b3 0 rfl (u8s O).toList _ R3.out.range und17 rfl (by rw [siz17]; simp [hn]) ?_) | (refine wpList_store_mid rfl _ _ _ rfl b1 0 (u8s O).toList.toArray rfl rfl hth (by rw [siz17]; simp [hn]) h1 ?_))
          exact bodyPost_ret (v := .agg (u8s O)) (results_row rfl _ rfl (HZ.row (b := b1) (cs := u8s O) (t := 126) (by simp)) und17 rfl (by rw [siz17, hn])) rfl ⟨by rw [← hO.out], HZ.2⟩

end Go.Proofs.YtallfmiikjmgaaaDoor
