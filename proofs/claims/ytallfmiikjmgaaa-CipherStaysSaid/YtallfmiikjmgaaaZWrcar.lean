import Derived.Test.YtallfmiikjmgaaaZWrfull
set_option linter.unusedVariables false
set_option linter.unusedSimpArgs false
/- Walks: the reference of layer 6: digits of 8 bits carried. -/
namespace Obol
def crest (l : List Nat) : Nat → Nat
  | 0 => 0
  | i + 1 => (crest l i + l.getD i 0) / 256
def carrS (l : List Nat) (n : Nat) : Nat → List Nat
  | 0 => List.replicate n 0
  | j + 1 => (carrS l n j).set j ((crest l j + l.getD j 0) % 256)
def carrL (l : List Nat) (n : Nat) : List Nat := carrS l n n
theorem carrS_len (l : List Nat) (n : Nat) : ∀ j, (carrS l n j).length = n
  | 0 => by simp [carrS]
  | j + 1 => by rw [carrS, List.length_set, carrS_len l n j]
theorem crest_le {l : List Nat} {M : Nat} (h : ∀ i, l.getD i 0 ≤ M) : ∀ i, crest l i ≤ M
  | 0 => Nat.zero_le _
  | i + 1 => by
    have h1 := crest_le h i
    have h2 := h i
    show (crest l i + l.getD i 0) / 256 ≤ M
    omega
end Obol
namespace Go.Proofs.Ytallfmiikjmgaaa
open Go.RowKit

def i64s (L : List Nat) : Array Value := (L.map fun (n : Nat) => Value.int .i64 (n : Int)).toArray
theorem i64s_get {L : List Nat} (i : Nat) (hi : i < L.length) : (i64s L)[i]? = some (.int .i64 ((L.getD i 0 : Nat) : Int)) := by
  unfold i64s
  rw [List.getElem?_toArray, List.getElem?_map, List.getElem?_eq_getElem hi, List.getD_eq_getElem?_getD, List.getElem?_eq_getElem hi]
  rfl
theorem rowSetI {w : World} {k : Nat} {L : List Nat} {t : TypeId} (h : Row w k (i64s L) t) (i Z : Nat) {z : Int} (hz : z = (Z : Int)) : Row (w.setCell ⟨k, i, none⟩ (.int .i64 z)) k (i64s (L.set i Z)) t := by
  have e : (i64s L).setIfInBounds i (.int .i64 z) = i64s (L.set i Z) := by
    unfold i64s
    rw [List.setIfInBounds_toArray, List.map_set, hz]
  rw [← e]
  exact h.set i _
/-- The cells from o on are these digits. -/
def DL (w : World) (b o : Nat) (L : List Nat) : Prop := ∀ i, i < L.length → w.cell? ⟨b, o + i, none⟩ = some (.int .i64 ((L.getD i 0 : Nat) : Int))
theorem DL.below {B : Nat} {w w' : World} {b o : Nat} {L : List Nat} (h : DL w b o L) (hb : Below B w w') (hB : b < B) : DL w' b o L := fun i hi => (hb.cell (p := ⟨b, o + i, none⟩) hB).trans (h i hi)
theorem Row.dl {w : World} {b : Nat} {L : List Nat} {t : TypeId} (h : Row w b (i64s L) t) : DL w b 0 L := fun i hi => by rw [Nat.zero_add]; exact h.cell i (i64s_get i hi)
theorem infoI : (Try.prog.info? 3).map (fun i => (i.zero, i.size, i.bytes)) = some (some (.int .i64 0), 1, 8) := by kernel_rfl
theorem info_partsI {i : Option TypeInfo} {z : Value} {s b : Nat} (h : i.map (fun i => (i.zero, i.size, i.bytes)) = some (some z, s, b)) : ∃ t, i = some t ∧ t.zero = some z ∧ t.size = s ∧ t.bytes = b := by
  cases i with
  | none => simp at h
  | some t => simp at h; exact ⟨t, rfl, h.1, h.2.1, h.2.2⟩
theorem make_ints (n : Nat) (hn : n ≤ 1000000) (W : World) : (Instr.makeSlice 73 (.int .i64 (n : Int)) (.int .i64 (n : Int))).run Try.prog W = .ok (.slice (some ⟨W.heap.size, 0, none⟩) n n) (W.alloc (.cells (i64s (List.replicate n 0)) 3)) := by
  obtain ⟨ti, hti, htz, hts, htb⟩ := info_partsI infoI
  have h := run_make (P := Try.prog) W 73 3 ti (.int .i64 0) Try.underlying73 hti htz .i64 .i64 (n : Int) (n : Int) (by omega) (by omega) (by rw [htb]; omega) (by omega)
  rw [hts] at h
  rw [h]
  have e : madeCells (Value.int .i64 0).cells n = i64s (List.replicate n 0) := Array.toList_inj.1 ((toList_madeCells_one (.int .i64 0) n).trans (by unfold i64s; simp))
  rw [← e]
  simp

set_option maxRecDepth 8000 in
set_option maxHeartbeats 4000000 in
theorem rCarried (b o len cap : Nat) (L : List Nat) (hL0 : L.length = len) (hM0 : ∀ i, L.getD i 0 ≤ 1099511627776) (n : Nat) (hn : n ≤ 1000) (hl : len ≤ 1000) (w : World) (hb0 : b < w.heap.size) (hD0 : DL w b o L) :
    Calls Try.prog 37 #[.slice (some ⟨b, o, none⟩) len cap, .int .i64 (n : Int)] w fun e w' => e = .returned (.slice (some ⟨w.heap.size, 0, none⟩) n n) ∧ Row w' w.heap.size (i64s (Obol.carrL L n)) 3 ∧ Below w.heap.size w w' := by
  have hmk := make_ints n (by omega)
  have HD := Lib.hid hD0
  have HM := Lib.hid hM0
  have HL := Lib.hid hL0
  have hni : (n : Int) ≤ 1000 := by omega
  have hli : (len : Int) ≤ 1000 := by omega
  clear hD0 hM0 hL0
  go_enter Try.func37, Try.ntmps37
  go_wp2_with fail
  have R0 : Hid (Row (w.alloc (.cells (i64s (List.replicate n 0)) 3)) w.heap.size (i64s (Obol.carrS L n 0)) 3) := Lib.hid (Row.new _ _ _)
  have B0 := Lib.hid (bAlloc (Below.refl _ w) (.cells (i64s (List.replicate n 0)) 3))
  generalize w.alloc (.cells (i64s (List.replicate n 0)) 3) = w1 at R0 B0 ⊢
  obtain ⟨b0, hb1⟩ : ∃ x, w.heap.size = x := ⟨_, rfl⟩
  rw [hb1] at R0 ⊢
  replace hb1 := Lib.hid hb1
  clear hmk
  go_loopw [6, 7] (fun q1 q2 wr => ∃ j : Nat, q1 = .int .i64 ((Obol.crest L j : Nat) : Int) ∧ q2 = .int .i64 (j : Int) ∧ j ≤ n ∧ Hid (Row wr b0 (i64s (Obol.carrS L n j)) 3) ∧ Hid (Below w.heap.size w wr)) (fun _ q2 _ => (n - intOf q2).toNat)
  case atStart => exact ⟨0, rfl, rfl, by omega, R0, B0⟩
  case round =>
    clear R0 B0
    rename World => wr
    obtain ⟨j, rfl, rfl, hj, R, B⟩ := hrel
    obtain ⟨i, hi⟩ : ∃ i : Int, (j : Int) = i := ⟨_, rfl⟩
    have hcl := Obol.crest_le HM.out j
    have hml := HM.out j
    obtain ⟨s, hs⟩ : ∃ s : Int, ((Obol.crest L j : Nat) : Int) = s := ⟨_, rfl⟩
    rw [hi, hs]
    have i0 : 0 ≤ i := by omega
    have s0 : 0 ≤ s := by omega
    have s1 : s ≤ 1099511627776 := by omega
    by_cases hjn : j < n
    · have i1 : i < (n : Int) := by omega
      have hij : Hid (i.toNat = j) := Lib.hid (by omega)
      have f := R.out.free i.toNat
      have c := R.out.cell i.toNat (i64s_get i.toNat (by rw [Obol.carrS_len]; omega))
      by_cases hjl : j < len
      · have i2 : i < (len : Int) := by omega
        obtain ⟨v, hv⟩ : ∃ v : Int, ((L.getD j 0 : Nat) : Int) = v := ⟨_, rfl⟩
        have v0 : 0 ≤ v := by omega
        have v1 : v ≤ 1099511627776 := by omega
        have cl : wr.cell? ⟨b, o + i.toNat, none⟩ = some (.int .i64 v) := by rw [← hv, hij.out]; exact (HD.out.below B.out hb0) j (by rw [HL.out]; exact hjl)
        have ww := wrap_small (x := s + v) (by omega) (by omega)
        have m1 : (s + v).tmod 256 = (s + v) % 256 := Int.tmod_eq_emod_of_nonneg (by omega)
        have m2 : (s + v).tdiv 256 = (s + v) / 256 := Int.tdiv_eq_ediv_of_nonneg (by omega)
        have RN := rowSetI R.out i.toNat ((Obol.crest L j + L.getD j 0) % 256) (z := (s + v) % 256) (by rw [← hs, ← hv]; rfl)
        have BN := Lib.hid (bSet (o := i.toNat) (u := .int .i64 ((s + v) % 256)) B.out (Nat.le_of_eq hb1.out))
        have hR : Hid (((Obol.crest L (j + 1) : Nat) : Int) = (s + v) / 256) := Lib.hid (by rw [← hs, ← hv]; rfl)
        replace RN := Lib.hid RN
        replace hs := Lib.hid hs
        replace hv := Lib.hid hv
        clear hcl hml
        go_wp2_with fail
        go_roundw
        case rel => exact ⟨j + 1, by rw [hR.out], by simp; omega, by omega, by show Hid (Row _ _ (i64s ((Obol.carrS L n j).set j ((Obol.crest L j + L.getD j 0) % 256))) _); have h := RN.out; rw [hij.out] at h ⊢; exact Lib.hid h, BN⟩
        case measure => simp [intOf]; omega
      · have i2 : ¬ i < (len : Int) := by omega
        have hz : L.getD j 0 = 0 := by rw [List.getD_eq_getElem?_getD, List.getElem?_eq_none (by rw [HL.out]; omega)]; rfl
        have m1 : s.tmod 256 = s % 256 := Int.tmod_eq_emod_of_nonneg s0
        have m2 : s.tdiv 256 = s / 256 := Int.tdiv_eq_ediv_of_nonneg s0
        have RN := rowSetI R.out i.toNat ((Obol.crest L j + L.getD j 0) % 256) (z := s % 256) (by rw [← hs, hz]; rfl)
        have BN := Lib.hid (bSet (o := i.toNat) (u := .int .i64 (s % 256)) B.out (Nat.le_of_eq hb1.out))
        have hR : Hid (((Obol.crest L (j + 1) : Nat) : Int) = s / 256) := Lib.hid (by show (((Obol.crest L j + L.getD j 0) / 256 : Nat) : Int) = _; rw [← hs, hz]; rfl)
        replace RN := Lib.hid RN
        replace hs := Lib.hid hs
        clear hcl hml hz
        go_wp2_with fail
        go_roundw
        case rel => exact ⟨j + 1, by rw [hR.out], by simp; omega, by omega, by show Hid (Row _ _ (i64s ((Obol.carrS L n j).set j ((Obol.crest L j + L.getD j 0) % 256))) _); have h := RN.out; rw [hij.out] at h ⊢; exact Lib.hid h, BN⟩
        case measure => simp [intOf]; omega
    · obtain rfl : j = n := by omega
      have i1 : ¬ i < (j : Int) := by omega
      replace hs := Lib.hid hs
      go_wp2_with fail
      go_ret
      exact ⟨by rw [hb1.out]; rfl, by rw [hb1.out]; exact R.out, B.out⟩

end Go.Proofs.Ytallfmiikjmgaaa
