import Derived.Test.YtallfmiikjmgaaaDoorZWrblk
set_option linter.unusedVariables false
set_option linter.unusedSimpArgs false
/- Walks: the reference of layer 6: a length in eight bytes. -/
namespace Obol
def lenS (n : Nat) : Nat → List Nat
  | 0 => [0, 0, 0, 0, 0, 0, 0, 0]
  | j + 1 => (lenS n j).set j (n / 256 ^ j % 256)
theorem lenS_len (n : Nat) : ∀ j, (lenS n j).length = 8
  | 0 => rfl
  | j + 1 => by rw [lenS, List.length_set, lenS_len n j]
end Obol
namespace Go.Proofs.YtallfmiikjmgaaaDoor
open Go.RowKit

set_option maxRecDepth 8000 in
set_option maxHeartbeats 4000000 in
theorem rLength (n : Int) (hn0 : 0 ≤ n) (hn1 : n ≤ 9223372036854775807) (w : World) :
    Calls Tryd.prog 76 #[.int .i64 n] w fun e w' => e = .returned (.slice (some ⟨w.heap.size, 0, none⟩) 8 8) ∧ Row w' w.heap.size (u8s (Obol.lenS n.toNat 8)) 5 ∧ Below w.heap.size w w' := by
  obtain ⟨ti, hti, htz, hts, htb⟩ := info_parts info8
  have hmk : ∀ W : World, (Instr.makeSlice 42 (.int .i64 8) (.int .i64 8)).run Tryd.prog W = .ok (.slice (some ⟨W.heap.size, 0, none⟩) 8 8) (W.alloc (.cells (u8s [0, 0, 0, 0, 0, 0, 0, 0]) 5)) := fun W => by
    have h := run_make (P := Tryd.prog) W 42 5 ti (.int .u8 0) Tryd.underlying42 hti htz .i64 .i64 8 8 (by omega) (by omega) (by rw [htb]; omega) (by omega)
    rw [hts] at h
    rw [h]
    have e : madeCells (Value.int .u8 0).cells 8 = u8s [0, 0, 0, 0, 0, 0, 0, 0] := Array.toList_inj.1 ((toList_madeCells_one (.int .u8 0) 8).trans rfl)
    rw [← e]
    rfl
  have hN := Lib.hid hn0
  go_enter Tryd.func76, Tryd.ntmps76
  go_wp2_with fail
  go_loopw [0, 4] (fun q1 q2 wr => ∃ (N : Int) (j : Nat), q1 = .int .i64 N ∧ q2 = .int .i64 (j : Int) ∧ j ≤ 8 ∧ Hid (N = ((n.toNat / 256 ^ j : Nat) : Int)) ∧ 0 ≤ N ∧ N ≤ 9223372036854775807 ∧ Row wr w.heap.size (u8s (Obol.lenS n.toNat j)) 5 ∧ Below w.heap.size w wr) (fun _ q2 _ => (8 - intOf q2).toNat)
  case atStart => exact ⟨n, 0, rfl, rfl, by omega, Lib.hid (by simp; omega), hn0, hn1, Row.new _ _ _, bAlloc (Below.refl _ _) _⟩
  case round =>
    obtain ⟨N, j, rfl, rfl, hj, hNj, N0, N1, R, B⟩ := hrel
    obtain ⟨i, hi⟩ : ∃ i : Int, (j : Int) = i := ⟨_, rfl⟩
    rw [hi]
    have i0 : 0 ≤ i := by omega
    by_cases hj8 : j < 8
    · have i1 : i < 8 := by omega
      have hij : Hid (i.toNat = j) := Lib.hid (by omega)
      have hc := R.cell i.toNat (u8s_get _ i.toNat (by rw [Obol.lenS_len]; omega))
      have hf := R.free i.toNat
      have RN := rowSet8 R i.toNat (n.toNat / 256 ^ j % 256) (z := N % 256) (by rw [hNj.out]; rfl)
      replace R := Lib.hid R
      replace B := Lib.hid (bSet (o := i.toNat) (u := .int .u8 (N % 256)) B (Nat.le_refl _))
      replace RN := Lib.hid RN
      have ht1 : N.tmod 256 = N % 256 := Int.tmod_eq_emod_of_nonneg N0
      have ht2 : N.tdiv 256 = N / 256 := Int.tdiv_eq_ediv_of_nonneg N0
      have hd : Hid (N / 256 = ((n.toNat / 256 ^ (j + 1) : Nat) : Int)) := Lib.hid (by rw [hNj.out, Nat.pow_succ, ← Nat.div_div_eq_div_mul]; rfl)
      go_wp2_with fail
      exact ⟨⟨_, j + 1, rfl, by simp; omega, by omega, hd, by omega, by omega, by show Row _ _ (u8s ((Obol.lenS n.toNat j).set j (n.toNat / 256 ^ j % 256))) _; have h := RN.out; rw [hij.out] at h ⊢; exact h, B.out⟩, by simp [intOf]; omega⟩
    · obtain rfl : j = 8 := by omega
      have i1 : ¬ i < 8 := by omega
      replace R := Lib.hid R
      replace B := Lib.hid B
      go_wp2_with fail
      go_ret
      exact ⟨rfl, R.out, B.out⟩

end Go.Proofs.YtallfmiikjmgaaaDoor
/- Walks: the reference of layer 6: bytes up to a multiple of 16. -/
namespace Obol
def padN (n : Nat) : Nat := (16 - n % 16) % 16
def fullL (B : List Nat) : List Nat := B ++ List.replicate (padN B.length) 0
end Obol
namespace Go.Proofs.YtallfmiikjmgaaaDoor
open Go.RowKit

def sliceLen : Value → Nat
  | .slice _ n _ => n
  | _ => 0
theorem newsB0 (w : World) : ∀ j, j < [0].length → (w.alloc (.cells #[.int .u8 0] 5)).cell? ((⟨w.heap.size, 0, none⟩ : Addr).add j) = some (.int .u8 ((([0] : List Nat).getD j 0 : Nat) : Int)) := fun j hj => by
  obtain rfl : j = 0 := by simp at hj; omega
  rw [addP]
  have := (show Row (w.alloc (.cells #[.int .u8 0] 5)) w.heap.size #[.int .u8 0] 5 from Row.new _ _ _).cell 0 rfl
  rw [this]
  rfl

set_option maxRecDepth 8000 in
set_option maxHeartbeats 4000000 in
theorem rFull (ao : Option Addr) (len cap : Nat) (B : List Nat) (HB0 : B8 len B) (hl : len ≤ 1000000) (hn0 : ao = none → len = 0 ∧ cap = 0) (w : World) (hb0 : 0 < len → ∃ b o, ao = some ⟨b, o, none⟩ ∧ BL w b o B) :
    Calls Tryd.prog 75 #[.slice ao len cap] w fun e w' => ∃ g cap2 n, e = .returned (.slice (some ⟨g, 0, none⟩) n cap2) ∧ OwnB w' w.heap.size (.slice (some ⟨g, 0, none⟩) n cap2) (Obol.fullL B) ∧ n = len + Obol.padN len ∧ Below w.heap.size w w' := by
  obtain ⟨g, cap2, w1, hap, hO, hb1⟩ := append_copy w ao len cap B HB0.len (by omega) hn0 hb0
  have HB := Lib.hid HB0
  have O := Lib.hid hO
  have B1 := Lib.hid hb1
  clear hO hb1 hn0 hb0 HB0
  go_enter Tryd.func75, Tryd.ntmps75
  go_wp2_with (at_builtin; refine wpList_appended rfl _ _ _ _ rfl _ _ _ rfl rfl hap ?_)
  clear hap
  go_loopw [3] (fun q1 wr => ∃ (k n g cap2 : Nat), q1 = .slice (some ⟨g, 0, none⟩) n cap2 ∧ n = len + k ∧ k ≤ Obol.padN len ∧ Hid (OwnB wr w.heap.size (.slice (some ⟨g, 0, none⟩) n cap2) (B ++ List.replicate k 0)) ∧ Hid (Below w.heap.size w wr)) (fun q1 _ => len + 16 - sliceLen q1)
  case atStart => exact ⟨0, len, g, cap2, rfl, rfl, Nat.zero_le _, Lib.hid (by simpa using O.out), B1⟩
  case round =>
    clear O B1
    rename World => wr
    obtain ⟨k, n, g, cap2, rfl, hnk, hk, O, BE⟩ := hrel
    have hp : Obol.padN len < 16 := Nat.mod_lt _ (by decide)
    have hpe : Obol.padN len = (16 - len % 16) % 16 := rfl
    have ht : ((n : Nat) : Int).tmod 16 = (n : Int) % 16 := Int.tmod_eq_emod_of_nonneg (by omega)
    by_cases hkp : k < Obol.padN len
    · have hne : ((n : Int) % 16 != 0) = true := by simp; omega
      have hll : (B ++ List.replicate k 0).length = n := by rw [List.length_append, List.length_replicate, HB.out.len]; omega
      have hbs := BE.out.size
      obtain ⟨v', w2, hap, hO', hb', -, hnil⟩ := append_ownB (wr.alloc (.cells #[.int .u8 0] 5)) w.heap.size _ _ [0] (O.out.below (bAlloc (Below.refl _ wr) _)) ⟨wr.heap.size, 0, none⟩ 1 1 rfl (newsB0 wr) (by rw [hll]; simp; omega) (by simp; omega)
      obtain ⟨g2, cap3, rfl⟩ := own_shape hO' (fun h => by cases (hnil.1 h).1)
      have hll2 : (B ++ List.replicate k 0 ++ [0]).length = n + 1 := by rw [List.length_append, hll]; rfl
      rw [hll2] at hap hO'
      have er : B ++ List.replicate k 0 ++ [0] = B ++ List.replicate (k + 1) 0 := by rw [List.append_assoc, List.replicate_succ']
      rw [er] at hO'
      have ON := Lib.hid hO'
      have BN := Lib.hid (BE.out.trans (((Below.refl w.heap.size wr).alloc hbs _).trans hb'))
      replace hnk := Lib.hid hnk
      replace hpe := Lib.hid hpe
      clear hO' hb' hnil er hll hll2 O BE
      go_wp2_with (at_builtin; refine wpList_appended rfl _ _ _ _ rfl _ _ _ rfl rfl hap ?_)
      go_roundw
      case rel => exact ⟨k + 1, n + 1, g2, cap3, rfl, by have := hnk.out; omega, by omega, ON, BN⟩
      case measure => have := hnk.out; simp [sliceLen]; omega
    · have hke : k = Obol.padN len := by omega
      have hne : ((n : Int) % 16 != 0) = false := by simp; omega
      have OF : Hid (OwnB wr w.heap.size (.slice (some ⟨g, 0, none⟩) n cap2) (Obol.fullL B)) := Lib.hid (by unfold Obol.fullL; rw [HB.out.len, ← hke]; exact O.out)
      rw [hke] at hnk
      have hnk := Lib.hid hnk
      clear hke hpe O
      go_wp2_with fail
      go_ret
      exact ⟨_, _, _, rfl, OF.out, hnk.out, BE.out⟩

end Go.Proofs.YtallfmiikjmgaaaDoor
/- Walks: the reference of layer 6: digits of 8 bits carried. -/
namespace Obol
def crest (l : List Nat) : Nat → Nat
  | 0 => 0
  | i + 1 => (crest l i + l.getD i 0) / 256
def carrS (l : List Nat) (n : Nat) : Nat → List Nat
  | 0 => List.replicate n 0
  | j + 1 => (carrS l n j).set j ((crest l j + l.getD j 0) % 256)
def carrL (l : List Nat) (n : Nat) : List Nat := carrS l n n
theorem carrS_len (l : List Nat) (n : Nat) : ∀ j, (carrS l n j).length = n
  | 0 => by simp [carrS]
  | j + 1 => by rw [carrS, List.length_set, carrS_len l n j]
theorem crest_le {l : List Nat} {M : Nat} (h : ∀ i, l.getD i 0 ≤ M) : ∀ i, crest l i ≤ M
  | 0 => Nat.zero_le _
  | i + 1 => by
    have h1 := crest_le h i
    have h2 := h i
    show (crest l i + l.getD i 0) / 256 ≤ M
    omega
end Obol
namespace Go.Proofs.YtallfmiikjmgaaaDoor
open Go.RowKit

def i64s (L : List Nat) : Array Value := (L.map fun (n : Nat) => Value.int .i64 (n : Int)).toArray
theorem i64s_get {L : List Nat} (i : Nat) (hi : i < L.length) : (i64s L)[i]? = some (.int .i64 ((L.getD i 0 : Nat) : Int)) := by
  unfold i64s
  rw [List.getElem?_toArray, List.getElem?_map, List.getElem?_eq_getElem hi, List.getD_eq_getElem?_getD, List.getElem?_eq_getElem hi]
  rfl
theorem rowSetI {w : World} {k : Nat} {L : List Nat} {t : TypeId} (h : Row w k (i64s L) t) (i Z : Nat) {z : Int} (hz : z = (Z : Int)) : Row (w.setCell ⟨k, i, none⟩ (.int .i64 z)) k (i64s (L.set i Z)) t := by
  have e : (i64s L).setIfInBounds i (.int .i64 z) = i64s (L.set i Z) := by
    unfold i64s
    rw [List.setIfInBounds_toArray, List.map_set, hz]
  rw [← e]
  exact h.set i _
/-- The cells from o on are these digits. -/
def DL (w : World) (b o : Nat) (L : List Nat) : Prop := ∀ i, i < L.length → w.cell? ⟨b, o + i, none⟩ = some (.int .i64 ((L.getD i 0 : Nat) : Int))
theorem DL.below {B : Nat} {w w' : World} {b o : Nat} {L : List Nat} (h : DL w b o L) (hb : Below B w w') (hB : b < B) : DL w' b o L := fun i hi => (hb.cell (p := ⟨b, o + i, none⟩) hB).trans (h i hi)
theorem Row.dl {w : World} {b : Nat} {L : List Nat} {t : TypeId} (h : Row w b (i64s L) t) : DL w b 0 L := fun i hi => by rw [Nat.zero_add]; exact h.cell i (i64s_get i hi)
theorem infoI : (Tryd.prog.info? 3).map (fun i => (i.zero, i.size, i.bytes)) = some (some (.int .i64 0), 1, 8) := by kernel_rfl
theorem info_partsI {i : Option TypeInfo} {z : Value} {s b : Nat} (h : i.map (fun i => (i.zero, i.size, i.bytes)) = some (some z, s, b)) : ∃ t, i = some t ∧ t.zero = some z ∧ t.size = s ∧ t.bytes = b := by
  cases i with
  | none => simp at h
  | some t => simp at h; exact ⟨t, rfl, h.1, h.2.1, h.2.2⟩
theorem make_ints (n : Nat) (hn : n ≤ 1000000) (W : World) : (Instr.makeSlice 110 (.int .i64 (n : Int)) (.int .i64 (n : Int))).run Tryd.prog W = .ok (.slice (some ⟨W.heap.size, 0, none⟩) n n) (W.alloc (.cells (i64s (List.replicate n 0)) 3)) := by
  obtain ⟨ti, hti, htz, hts, htb⟩ := info_partsI infoI
  have h := run_make (P := Tryd.prog) W 110 3 ti (.int .i64 0) Tryd.underlying110 hti htz .i64 .i64 (n : Int) (n : Int) (by omega) (by omega) (by rw [htb]; omega) (by omega)
  rw [hts] at h
  rw [h]
  have e : madeCells (Value.int .i64 0).cells n = i64s (List.replicate n 0) := Array.toList_inj.1 ((toList_madeCells_one (.int .i64 0) n).trans (by unfold i64s; simp))
  rw [← e]
  simp

set_option maxRecDepth 8000 in
set_option maxHeartbeats 4000000 in
theorem rCarried (b o len cap : Nat) (L : List Nat) (hL0 : L.length = len) (hM0 : ∀ i, L.getD i 0 ≤ 1099511627776) (n : Nat) (hn : n ≤ 1000) (hl : len ≤ 1000) (w : World) (hb0 : b < w.heap.size) (hD0 : DL w b o L) :
    Calls Tryd.prog 99 #[.slice (some ⟨b, o, none⟩) len cap, .int .i64 (n : Int)] w fun e w' => e = .returned (.slice (some ⟨w.heap.size, 0, none⟩) n n) ∧ Row w' w.heap.size (i64s (Obol.carrL L n)) 3 ∧ Below w.heap.size w w' := by
  have hmk := make_ints n (by omega)
  have HD := Lib.hid hD0
  have HM := Lib.hid hM0
  have HL := Lib.hid hL0
  have hni : (n : Int) ≤ 1000 := by omega
  have hli : (len : Int) ≤ 1000 := by omega
  clear hD0 hM0 hL0
  go_enter Tryd.func99, Tryd.ntmps99
  go_wp2_with fail
  have R0 : Hid (Row (w.alloc (.cells (i64s (List.replicate n 0)) 3)) w.heap.size (i64s (Obol.carrS L n 0)) 3) := Lib.hid (Row.new _ _ _)
  have B0 := Lib.hid (bAlloc (Below.refl _ w) (.cells (i64s (List.replicate n 0)) 3))
  generalize w.alloc (.cells (i64s (List.replicate n 0)) 3) = w1 at R0 B0 ⊢
  obtain ⟨b0, hb1⟩ : ∃ x, w.heap.size = x := ⟨_, rfl⟩
  rw [hb1] at R0 ⊢
  replace hb1 := Lib.hid hb1
  clear hmk
  go_loopw [6, 7] (fun q1 q2 wr => ∃ j : Nat, q1 = .int .i64 ((Obol.crest L j : Nat) : Int) ∧ q2 = .int .i64 (j : Int) ∧ j ≤ n ∧ Hid (Row wr b0 (i64s (Obol.carrS L n j)) 3) ∧ Hid (Below w.heap.size w wr)) (fun _ q2 _ => (n - intOf q2).toNat)
  case atStart => exact ⟨0, rfl, rfl, by omega, R0, B0⟩
  case round =>
    clear R0 B0
    rename World => wr
    obtain ⟨j, rfl, rfl, hj, R, B⟩ := hrel
    obtain ⟨i, hi⟩ : ∃ i : Int, (j : Int) = i := ⟨_, rfl⟩
    have hcl := Obol.crest_le HM.out j
    have hml := HM.out j
    obtain ⟨s, hs⟩ : ∃ s : Int, ((Obol.crest L j : Nat) : Int) = s := ⟨_, rfl⟩
    rw [hi, hs]
    have i0 : 0 ≤ i := by omega
    have s0 : 0 ≤ s := by omega
    have s1 : s ≤ 1099511627776 := by omega
    by_cases hjn : j < n
    · have i1 : i < (n : Int) := by omega
      have hij : Hid (i.toNat = j) := Lib.hid (by omega)
      have f := R.out.free i.toNat
      have c := R.out.cell i.toNat (i64s_get i.toNat (by rw [Obol.carrS_len]; omega))
      by_cases hjl : j < len
      · have i2 : i < (len : Int) := by omega
        obtain ⟨v, hv⟩ : ∃ v : Int, ((L.getD j 0 : Nat) : Int) = v := ⟨_, rfl⟩
        have v0 : 0 ≤ v := by omega
        have v1 : v ≤ 1099511627776 := by omega
        have cl : wr.cell? ⟨b, o + i.toNat, none⟩ = some (.int .i64 v) := by rw [← hv, hij.out]; exact (HD.out.below B.out hb0) j (by rw [HL.out]; exact hjl)
        have ww := wrap_small (x := s + v) (by omega) (by omega)
        have m1 : (s + v).tmod 256 = (s + v) % 256 := Int.tmod_eq_emod_of_nonneg (by omega)
        have m2 : (s + v).tdiv 256 = (s + v) / 256 := Int.tdiv_eq_ediv_of_nonneg (by omega)
        have RN := rowSetI R.out i.toNat ((Obol.crest L j + L.getD j 0) % 256) (z := (s + v) % 256) (by rw [← hs, ← hv]; rfl)
        have BN := Lib.hid (bSet (o := i.toNat) (u := .int .i64 ((s + v) % 256)) B.out (Nat.le_of_eq hb1.out))
        have hR : Hid (((Obol.crest L (j + 1) : Nat) : Int) = (s + v) / 256) := Lib.hid (by rw [← hs, ← hv]; rfl)
        replace RN := Lib.hid RN
        replace hs := Lib.hid hs
        replace hv := Lib.hid hv
        clear hcl hml
        go_wp2_with fail
        go_roundw
        case rel => exact ⟨j + 1, by rw [hR.out], by simp; omega, by omega, by show Hid (Row _ _ (i64s ((Obol.carrS L n j).set j ((Obol.crest L j + L.getD j 0) % 256))) _); have h := RN.out; rw [hij.out] at h ⊢; exact Lib.hid h, BN⟩
        case measure => simp [intOf]; omega
      · have i2 : ¬ i < (len : Int) := by omega
        have hz : L.getD j 0 = 0 := by rw [List.getD_eq_getElem?_getD, List.getElem?_eq_none (by rw [HL.out]; omega)]; rfl
        have m1 : s.tmod 256 = s % 256 := Int.tmod_eq_emod_of_nonneg s0
        have m2 : s.tdiv 256 = s / 256 := Int.tdiv_eq_ediv_of_nonneg s0
        have RN := rowSetI R.out i.toNat ((Obol.crest L j + L.getD j 0) % 256) (z := s % 256) (by rw [← hs, hz]; rfl)
        have BN := Lib.hid (bSet (o := i.toNat) (u := .int .i64 (s % 256)) B.out (Nat.le_of_eq hb1.out))
        have hR : Hid (((Obol.crest L (j + 1) : Nat) : Int) = s / 256) := Lib.hid (by show (((Obol.crest L j + L.getD j 0) / 256 : Nat) : Int) = _; rw [← hs, hz]; rfl)
        replace RN := Lib.hid RN
        replace hs := Lib.hid hs
        clear hcl hml hz
        go_wp2_with fail
        go_roundw
        case rel => exact ⟨j + 1, by rw [hR.out], by simp; omega, by omega, by show Hid (Row _ _ (i64s ((Obol.carrS L n j).set j ((Obol.crest L j + L.getD j 0) % 256))) _); have h := RN.out; rw [hij.out] at h ⊢; exact Lib.hid h, BN⟩
        case measure => simp [intOf]; omega
    · obtain rfl : j = n := by omega
      have i1 : ¬ i < (j : Int) := by omega
      replace hs := Lib.hid hs
      go_wp2_with fail
      go_ret
      exact ⟨by rw [hb1.out]; rfl, by rw [hb1.out]; exact R.out, B.out⟩

end Go.Proofs.YtallfmiikjmgaaaDoor
/- Walks: the reference of layer 6: is a number of 17 digits below 2^130 - 5? -/
namespace Obol
def lessF (L : List Nat) : Nat → Bool
  | 0 => decide (L.getD 0 0 < 251)
  | i + 1 => if L.getD (i + 1) 0 = 255 then lessF L i else true
def lessL (L : List Nat) : Bool := if L.getD 16 0 = 3 then lessF L 15 else decide (L.getD 16 0 < 3)
end Obol
namespace Go.Proofs.YtallfmiikjmgaaaDoor
open Go.RowKit

theorem DL.at {w : World} {b o : Nat} {L : List Nat} (h : DL w b o L) {i : Nat} (hi : i < L.length) : ∃ v : Int, w.cell? ⟨b, o + i, none⟩ = some (.int .i64 v) ∧ ((L.getD i 0 : Nat) : Int) = v ∧ 0 ≤ v := ⟨_, h i hi, rfl, by omega⟩
set_option maxRecDepth 8000 in
set_option maxHeartbeats 4000000 in
theorem rLess (b o cap : Nat) (L : List Nat) (hL0 : L.length = 17) (w : World) (hD0 : DL w b o L) :
    Calls Tryd.prog 110 #[.slice (some ⟨b, o, none⟩) 17 cap] w fun e w' => e = .returned (.bool (Obol.lessL L)) ∧ w' = w := by
  have HD := Lib.hid hD0
  have HL := Lib.hid hL0
  obtain ⟨v, cv, ev, v0⟩ := hD0.at (i := 16) (by omega)
  clear hD0 hL0
  by_cases h3 : v = 3
  · subst h3
    have hE : Hid (Obol.lessL L = Obol.lessF L 15) := Lib.hid (if_pos (by omega))
    replace ev := Lib.hid ev
    go_enter Tryd.func110, Tryd.ntmps110
    go_wp2_with fail
    go_loopw [3] (fun q1 wr => ∃ j : Nat, q1 = .int .i64 (j : Int) ∧ j ≤ 15 ∧ Hid (Obol.lessL L = Obol.lessF L j) ∧ wr = w) (fun q1 _ => (intOf q1).toNat)
    case atStart => exact ⟨15, rfl, by omega, hE, rfl⟩
    case round =>
      clear hE
      obtain ⟨j, rfl, hj, hE, rfl⟩ := hrel
      obtain ⟨i, hi⟩ : ∃ i : Int, (j : Int) = i := ⟨_, rfl⟩
      rw [hi]
      obtain ⟨u, cu, eu, u0⟩ := HD.out.at (i := j) (by rw [HL.out]; omega)
      by_cases hj0 : 0 < j
      · have i0 : 0 < i := by omega
        have i1 : i < 17 := by omega
        have hij : i.toNat = j := by omega
        rw [← hij] at cu
        replace hij := Lib.hid hij
        have wi := wrap_small (x := i - 1) (by omega) (by omega)
        obtain ⟨q, rfl⟩ : ∃ q, j = q + 1 := ⟨j - 1, by omega⟩
        by_cases h255 : u = 255
        · subst h255
          have hE2 : Hid (Obol.lessL L = Obol.lessF L q) := Lib.hid (hE.out.trans (if_pos (by omega)))
          replace eu := Lib.hid eu
          go_wp2_with fail
          go_roundw
          case rel => exact ⟨q, by simp; omega, by omega, hE2, by trivial⟩
          case measure => simp [intOf]; omega
        · have hT : Hid (Obol.lessL L = true) := Lib.hid (hE.out.trans (if_neg (by omega)))
          replace eu := Lib.hid eu
          go_wp2_with fail
          go_ret
          exact ⟨by rw [hT.out]; rfl, rfl⟩
      · obtain rfl : j = 0 := by omega
        obtain rfl : i = 0 := by omega
        have hT : Hid (Obol.lessL L = decide (u < 251)) := Lib.hid (hE.out.trans (by show decide (L.getD 0 0 < 251) = _; congr 1; exact propext ⟨fun h => by omega, fun h => by omega⟩))
        rw [Nat.add_zero] at cu
        replace eu := Lib.hid eu
        go_wp2_with fail
        go_ret
        exact ⟨by rw [hT.out]; rfl, rfl⟩
  · have hT : Hid (Obol.lessL L = decide (v < 3)) := Lib.hid ((if_neg (by omega)).trans (by congr 1; exact propext ⟨fun h => by omega, fun h => by omega⟩))
    replace ev := Lib.hid ev
    go_enter Tryd.func110, Tryd.ntmps110
    go_wp2_with fail
    go_ret
    exact ⟨by rw [hT.out]; rfl, rfl⟩

end Go.Proofs.YtallfmiikjmgaaaDoor
