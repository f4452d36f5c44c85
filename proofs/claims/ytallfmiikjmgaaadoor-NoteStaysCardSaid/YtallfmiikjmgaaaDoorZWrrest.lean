import Derived.Test.YtallfmiikjmgaaaDoorZWowni
import Derived.Test.YtallfmiikjmgaaaDoorZWcmark
import Derived.Deep.CutBlock
import Derived.Deep.DeepCutAuto
set_option linter.unusedVariables false
set_option linter.unusedSimpArgs false
/- Walks: the reference of layer 6: a number of digits modulo 2^130 - 5. -/
namespace Obol
def hiE (X : List Nat) (i : Nat) : Nat := X.getD (16 + i) 0 / 4 + (if i < 23 then X.getD (17 + i) 0 % 4 * 64 else 0)
def hiS (X : List Nat) : Nat → List Nat
  | 0 => List.replicate 24 0
  | j + 1 => (hiS X j).set j (hiE X j)
theorem hiS_len (X : List Nat) : ∀ j, (hiS X j).length = 24
  | 0 => by simp [hiS]
  | j + 1 => by rw [hiS, List.length_set, hiS_len X j]
theorem hiS_get (X : List Nat) : ∀ j i, j ≤ 24 → i < 24 → (hiS X j).getD i 0 = if i < j then hiE X i else 0
  | 0, i, _, _ => by
    rw [if_neg (by omega)]
    show (List.replicate 24 0).getD i 0 = 0
    rw [List.getD_eq_getElem?_getD, List.getElem?_replicate]
    split <;> rfl
  | j + 1, i, hj, hi => by
    show ((hiS X j).set j _).getD i 0 = _
    rw [getD_set _ _ _ _ (by rw [hiS_len]; omega)]
    by_cases h : j = i
    · subst h; rw [if_pos rfl, if_pos (by omega)]
    · rw [if_neg h, hiS_get X j i (by omega) hi]
      by_cases h2 : i < j
      · rw [if_pos h2, if_pos (by omega)]
      · rw [if_neg h2, if_neg (by omega)]
theorem hiS_eq (X : List Nat) : hiS X 24 = highL X := by
  refine ext_getD (by rw [hiS_len]; simp [highL]) fun i hi => ?_
  rw [hiS_len] at hi
  rw [hiS_get X 24 i (Nat.le_refl _) hi, if_pos hi]
  unfold highL
  rw [range_get hi]; rfl
def someS (X : List Nat) : Nat → Bool
  | 0 => false
  | j + 1 => someS X j || decide (0 < hiE X j)
theorem someS_false (X : List Nat) : ∀ j, someS X j = false ↔ ∀ i, i < j → hiE X i = 0
  | 0 => ⟨fun _ i hi => absurd hi (Nat.not_lt_zero i), fun _ => rfl⟩
  | j + 1 => by
    have ih := someS_false X j
    show (someS X j || decide (0 < hiE X j)) = false ↔ _
    rw [Bool.or_eq_false_iff, ih]
    constructor
    · intro ⟨h1, h2⟩ i hi
      have h3 : ¬ 0 < hiE X j := of_decide_eq_false h2
      by_cases h : i = j
      · subst h; omega
      · exact h1 i (by omega)
    · intro h
      exact ⟨fun i hi => h i (by omega), decide_eq_false (by have := h j (by omega); omega)⟩
/-- Some digit above bit 130 is there. -/
theorem some_eq {V : Nat} (hV : V < 256 ^ 40) : someS (digs 40 V) 24 = decide (0 < V / 1361129467683753853853498429727072845824) := by
  have hH := highL_eq hV
  have hg : ∀ i, i < 24 → hiE (digs 40 V) i = V / 1361129467683753853853498429727072845824 / 256 ^ i % 256 := fun i hi => by
    rw [← digs_get 24 _ hi, ← hH]
    unfold highL
    rw [range_get hi]; rfl
  by_cases h : V / 1361129467683753853853498429727072845824 = 0
  · rw [(someS_false _ 24).2 (fun i hi => by rw [hg i hi, h, Nat.zero_div]), h]; rfl
  · have h2 : someS (digs 40 V) 24 ≠ false := fun hf => h (by
      have h3 := (someS_false _ 24).1 hf
      have h4 : vR 256 (digs 24 (V / 1361129467683753853853498429727072845824)) 24 = 0 := by
        have key : ∀ n, n ≤ 24 → vR 256 (digs 24 (V / 1361129467683753853853498429727072845824)) n = 0 := by
          intro n
          induction n with
          | zero => intro _; rfl
          | succ n ih =>
            intro hn
            rw [vR_succ, ih (by omega), digs_get 24 _ (by omega), ← hg n (by omega), h3 n (by omega)]; simp
        exact key 24 (Nat.le_refl _)
      rw [vR_digs 24 _ 24 (Nat.le_refl _), Nat.mod_eq_of_lt] at h4
      · exact h4
      · rw [Nat.div_lt_iff_lt_mul (by decide)]
        exact Nat.lt_of_lt_of_le hV (by decide))
    rw [eq_true_of_ne_false h2]
    exact (decide_eq_true (by omega)).symm
def nxS (H L : List Nat) : Nat → List Nat
  | 0 => H
  | j + 1 => (nxS H L j).set j (if j < 17 then 5 * (nxS H L j).getD j 0 + L.getD j 0 else 5 * (nxS H L j).getD j 0)
theorem nxS_len (H L : List Nat) : ∀ j, (nxS H L j).length = H.length
  | 0 => rfl
  | j + 1 => by rw [nxS, List.length_set, nxS_len H L j]
theorem nxS_get (H L : List Nat) : ∀ j i, j ≤ H.length → (nxS H L j).getD i 0 = if i < j then (if i < 17 then 5 * H.getD i 0 + L.getD i 0 else 5 * H.getD i 0) else H.getD i 0
  | 0, i, _ => by rw [if_neg (by omega)]; rfl
  | j + 1, i, hj => by
    show ((nxS H L j).set j _).getD i 0 = _
    rw [getD_set _ _ _ _ (by rw [nxS_len]; omega)]
    by_cases h : j = i
    · subst h; rw [if_pos rfl, if_pos (show j < j + 1 by omega), nxS_get H L j j (by omega), if_neg (show ¬ j < j by omega)]
    · rw [if_neg h, nxS_get H L j i (by omega)]
      by_cases h2 : i < j
      · rw [if_pos h2, if_pos (show i < j + 1 by omega)]
      · rw [if_neg h2, if_neg (show ¬ i < j + 1 by omega)]
theorem nxS_eq {H L : List Nat} (hH : H.length = 24) : nxS H L 24 = nextL H L := by
  refine ext_getD (by rw [nxS_len, hH]; simp [nextL]) fun i hi => ?_
  rw [nxS_len, hH] at hi
  rw [nxS_get H L 24 i (by omega), if_pos hi]
  unfold nextL
  rw [range_get hi]
theorem nxS_le {H L : List Nat} (hH : H.length = 24) (h1 : ∀ i, H.getD i 0 < 256) (h2 : ∀ i, L.getD i 0 < 256) {j : Nat} (hj : j ≤ 24) (i : Nat) : (nxS H L j).getD i 0 ≤ 2000 := by
  rw [nxS_get H L j i (by omega)]
  have := h1 i
  have := h2 i
  split
  · split <;> omega
  · omega
theorem nextV_bound {V : Nat} (h : V < 256 ^ 40) : nextV V < 256 ^ 40 := by
  have e : (256 : Nat) ^ 40 = 2135987035920910082395021706169552114602704522356652769947041607822219725780640550022962086936576 := by decide
  rw [e] at h ⊢
  unfold nextV
  omega
end Obol
namespace Go.Proofs.YtallfmiikjmgaaaDoor
open Go.RowKit

/-- What the digits of a slice say. -/
def rmeas0 (w : World) (q : Value) : Nat := match q with
  | .slice (some a) _ _ => Obol.vR 256 ((List.range 40).map (cellN w a.block)) 40
  | _ => 0
noncomputable def rmeas : World → Value → Nat := (Obol.shutN rmeas0).1
theorem rmeas_eq : rmeas = rmeas0 := (Obol.shutN rmeas0).2
theorem rmeas_row {w : World} {x V : Nat} {t : TypeId} (h : Row w x (i64s (Obol.digs 40 V)) t) (hV : V < 256 ^ 40) (n c : Nat) : rmeas w (.slice (some ⟨x, 0, none⟩) n c) = V := by
  rw [rmeas_eq]
  show Obol.vR 256 ((List.range 40).map (cellN w x)) 40 = V
  rw [Obol.vR_congr 256 (M := Obol.digs 40 V) 40 (fun i hi => by
    rw [Obol.range_get hi]
    unfold cellN
    rw [h.cell i (i64s_get i (by rw [Obol.digs_len]; exact hi))]
    rfl), Obol.vR_digs 40 _ 40 (Nat.le_refl _), Nat.mod_eq_of_lt hV]

set_option maxRecDepth 8000 in
set_option maxHeartbeats 8000000 in
theorem rRest (b o len cap : Nat) (L : List Nat) (hL0 : L.length = len) (hM0 : ∀ i, L.getD i 0 ≤ 1099511627776) (hl : len ≤ 40) (hV0 : Obol.vR 256 L 40 < 256 ^ 40) (w : World) (hb0 : b < w.heap.size) (hD0 : DL w b o L) :
    Calls Tryd.prog 98 #[.slice (some ⟨b, o, none⟩) len cap] w fun e w' => ∃ g c, e = .returned (.slice (some ⟨g, 0, none⟩) 17 c) ∧ OwnI w' w.heap.size (.slice (some ⟨g, 0, none⟩) 17 c) (Obol.digs 17 (Obol.vR 256 L 40 % Obol.P130)) ∧ Below w.heap.size w w' := by
  have c0 := rCarried b o len cap L hL0 hM0 40 (by omega) (by omega) w hb0 hD0
  rw [Obol.carrL_eq L 40 40 (Nat.le_refl _)] at c0
  obtain ⟨V0, hV⟩ : ∃ v, Obol.vR 256 L 40 = v := ⟨_, rfl⟩
  rw [hV] at hV0 c0 ⊢
  replace c0 := Lib.hid c0
  have hV1 := Lib.hid hV0
  have cC := Lib.hid (fun (b : Nat) (len cap : Nat) (L : List Nat) (hL : L.length = len) (hM : ∀ i, L.getD i 0 ≤ 1099511627776) (n : Nat) (hn : n ≤ 1000) (hl : len ≤ 1000) W (hb : b < W.heap.size) (hD : DL W b 0 L) => rCarried b 0 len cap L hL hM n hn hl W hb hD)
  have cL := Lib.hid (fun (b cap : Nat) (L : List Nat) (hL : L.length = 17) W (hD : DL W b 0 L) => rLess b 0 cap L hL W hD)
  have hmk : ∀ W, (Instr.makeSlice 110 (.int .i64 24) (.int .i64 24)).run Tryd.prog W = .ok (.slice (some ⟨W.heap.size, 0, none⟩) 24 24) (W.alloc (.cells (i64s (List.replicate 24 0)) 3)) := fun W => make_ints 24 (by omega) W
  obtain ⟨Z, hZ⟩ : ∃ Z, List.replicate 24 0 = Z := ⟨_, rfl⟩
  rw [hZ] at hmk
  replace hZ := Lib.hid hZ
  clear hV hV0 hb0 hD0 hM0 hL0
  go_enter Tryd.func98, Tryd.ntmps98
  go_wp2_with fail
  refine c0.out.mono ?_
  rintro e w1 ⟨rfl, hR1, hb1⟩
  have R1 := Lib.hid hR1
  have B1 := Lib.hid hb1
  obtain ⟨x0, hx0⟩ : ∃ x, w.heap.size = x := ⟨_, rfl⟩
  rw [hx0] at R1 ⊢
  replace hx0 := Lib.hid hx0
  clear c0 hR1 hb1
  go_wp2_with fail
  go_loopw [3] (fun q1 wr => ∃ x V, q1 = .slice (some ⟨x, 0, none⟩) 40 40 ∧ w.heap.size ≤ x ∧ Hid (V < 256 ^ 40 ∧ V % Obol.P130 = V0 % Obol.P130) ∧ Hid (Row wr x (i64s (Obol.digs 40 V)) 3) ∧ Hid (Below w.heap.size w wr)) (fun q1 wr => rmeas wr q1)
  case atStart => exact ⟨x0, V0, rfl, Nat.le_of_eq hx0.out, Lib.hid ⟨hV1.out, rfl⟩, R1, B1⟩
  case round =>
    clear R1 B1 hV1
    rename World => wr
    obtain ⟨x, V, rfl, hx, hV, RX, B⟩ := hrel
    have hme := Lib.hid (rmeas_row RX.out hV.out.1 40 40)
    obtain ⟨X, hX⟩ : ∃ l, Obol.digs 40 V = l := ⟨_, rfl⟩
    have hXl : X.length = 40 := by rw [← hX, Obol.digs_len]
    have hXb : Hid (∀ i, X.getD i 0 < 256) := Lib.hid (fun i => by rw [← hX]; exact Obol.digs_lt _ _ i)
    rw [hX] at RX
    replace hX := Lib.hid hX
    go_upto_region 3 with fail
    have RH := Lib.hid (Row.new wr (i64s Z) 3)
    have RX2 := Lib.hid (RX.out.alloc (.cells (i64s Z) 3))
    have B2 := Lib.hid (bAlloc B.out (.cells (i64s Z) 3))
    have hxh := RX.out.lt
    clear RX B
    generalize wr.alloc (.cells (i64s Z) 3) = w2 at RH RX2 B2 ⊢
    obtain ⟨h, hh⟩ : ∃ x, wr.heap.size = x := ⟨_, rfl⟩
    rw [hh] at RH hxh ⊢
    replace hh := Lib.hid hh
    have hne : Hid (w.heap.size ≤ x ∧ x < h) := Lib.hid ⟨hx, hxh⟩
    clear hx hxh
    have RH2 : Hid (Row w2 h (i64s (Obol.hiS X 0)) 3) := Lib.hid (by show Row w2 h (i64s (List.replicate 24 0)) _; rw [hZ.out]; exact RH.out)
    clear RH
    go_wp2_with fail
    go_loopw [5, 6] (fun q1 q2 wr => ∃ j : Nat, q1 = .bool (Obol.someS X j) ∧ q2 = .int .i64 (j : Int) ∧ j ≤ 24 ∧ Hid (Row wr h (i64s (Obol.hiS X j)) 3) ∧ Hid (Row wr x (i64s X) 3) ∧ Hid (Below w.heap.size w wr)) (fun _ q2 _ => (24 - intOf q2).toNat)
    case atStart => exact ⟨0, rfl, rfl, by omega, RH2, RX2, B2⟩
    case round =>
      clear RH2 RX2 B2
      rename World => wy
      obtain ⟨j, rfl, rfl, hj, RH, RX, B⟩ := hrel
      obtain ⟨i, hi⟩ : ∃ i : Int, (j : Int) = i := ⟨_, rfl⟩
      rw [hi]
      have i0 : 0 ≤ i := by omega
      obtain ⟨so, hso⟩ : ∃ z, Obol.someS X j = z := ⟨_, rfl⟩
      by_cases hj24 : j < 24
      · have i1 : i < 24 := by omega
        rw [hso]
        have hij : Hid (i.toNat = j) := Lib.hid (by omega)
        obtain ⟨p, hp⟩ : ∃ z : Int, ((X.getD (16 + i).toNat 0 : Nat) : Int) = z := ⟨_, rfl⟩
        have hpb := hXb.out (16 + i).toNat
        have p0 : 0 ≤ p := by omega
        have p1 : p ≤ 255 := by omega
        have c := RX.out.cell (16 + i).toNat (v := .int .i64 p) ((i64s_get _ (by omega)).trans (by rw [hp]))
        have d := RH.out.cell i.toNat (i64s_get i.toNat (by rw [Obol.hiS_len]; omega))
        have f := RH.out.free i.toNat
        have w1 := wrap_small (x := 16 + i) (by omega) (by omega)
        have w2 := wrap_small (x := 17 + i) (by omega) (by omega)
        have t1 : p.tdiv 4 = p / 4 := Int.tdiv_eq_ediv_of_nonneg p0
        have RN1 := Lib.hid (rowSetI RH.out i.toNat (X.getD (16 + i).toNat 0 / 4) (z := p / 4) (by rw [← hp]; rfl))
        have RX1 : Hid (Row (wy.setCell ⟨h, i.toNat, none⟩ (.int .i64 (p / 4))) x (i64s X) 3) := Lib.hid (RX.out.other (by have := hne.out; omega))
        have BN1 := Lib.hid (bSet (u := .int .i64 (p / 4)) (o := i.toNat) B.out (show w.heap.size ≤ h by have := hne.out; omega))
        replace hp := Lib.hid hp
        clear hpb RH RX B
        have hE : Hid (((Obol.hiE X j : Nat) : Int) = p / 4 + (if j < 23 then ((X.getD (17 + i).toNat 0 % 4 * 64 : Nat) : Int) else 0)) := Lib.hid (by
          unfold Obol.hiE
          rw [← hp.out, show (16 + i).toNat = 16 + j by omega, show (17 + i).toNat = 17 + j by omega]
          split <;> simp)
        obtain ⟨e, he⟩ : ∃ z : Int, ((Obol.hiE X j : Nat) : Int) = z := ⟨_, rfl⟩
        rw [he] at hE
        have e0 : 0 ≤ e := by omega
        go_upto_if 27 with fail
        generalize wy.setCell ⟨h, i.toNat, none⟩ (.int .i64 (p / 4)) = w3 at RN1 RX1 BN1 ⊢
        clear c d f t1 w1
        go_cut [] (fun wc => Hid (Row wc h (i64s (Obol.hiS X (j + 1))) 3) ∧ Hid (Row wc x (i64s X) 3) ∧ Hid (Below w.heap.size w wc))
        case first =>
          by_cases hj23 : j < 23
          · have i2 : i < 23 := by omega
            obtain ⟨q, hq⟩ : ∃ z : Int, ((X.getD (17 + i).toNat 0 : Nat) : Int) = z := ⟨_, rfl⟩
            have hqb := hXb.out (17 + i).toNat
            have q0 : 0 ≤ q := by omega
            have q1 : q ≤ 255 := by omega
            have t2 : q.tmod 4 = q % 4 := Int.tmod_eq_emod_of_nonneg q0
            have hE2 : p / 4 + q % 4 * 64 = e := by
              have h := hE.out
              rw [if_pos hj23] at h
              rw [h, ← hq]; simp
            have w4 := wrap_small (x := q % 4 * 64) (by omega) (by omega)
            have w5 := wrap_small (x := p / 4 + q % 4 * 64) (by omega) (by omega)
            have cx := RX1.out.cell (17 + i).toNat (v := .int .i64 q) ((i64s_get _ (by omega)).trans (by rw [hq]))
            have ch := RN1.out.cell i.toNat (v := .int .i64 (p / 4)) ((i64s_get _ (by rw [List.length_set, Obol.hiS_len]; omega)).trans (by
              rw [Obol.getD_set _ _ _ _ (by rw [Obol.hiS_len]; omega), if_pos rfl, ← hp.out]; rfl))
            have f := RN1.out.free i.toNat
            have RN2 : Hid (Row (w3.setCell ⟨h, i.toNat, none⟩ (.int .i64 e)).drew h (i64s (Obol.hiS X (j + 1))) 3) := Lib.hid (by
              have h2 := (rowSetI RN1.out i.toNat (Obol.hiE X j) he.symm).drew
              rw [List.set_set, hij.out] at h2
              rw [hij.out]; exact h2)
            have RX3 : Hid (Row (w3.setCell ⟨h, i.toNat, none⟩ (.int .i64 e)).drew x (i64s X) 3) := Lib.hid ((RX1.out.other (by have := hne.out; omega)).drew)
            have BN3 := Lib.hid (bDrew (bSet (u := .int .i64 e) (o := i.toNat) BN1.out (show w.heap.size ≤ h by have := hne.out; omega)))
            replace hq := Lib.hid hq
            replace he := Lib.hid he
            clear hqb RN1 RX1 BN1
            go_wp2_with fail
            go_region
            go_wp2_with fail
            go_meet
            exact ⟨RN2, RX3, BN3⟩
          · have i2 : ¬ i < 23 := by omega
            have hE2 : p / 4 = e := by
              have h := hE.out
              rw [if_neg hj23, Int.add_zero] at h
              exact h.symm
            have RN2 : Hid (Row w3 h (i64s (Obol.hiS X (j + 1))) 3) := Lib.hid (by
              have h2 := RN1.out
              have h3 : X.getD (16 + i).toNat 0 / 4 = Obol.hiE X j := by have := hp.out; omega
              rw [h3, hij.out] at h2
              exact h2)
            replace hE2 := Lib.hid hE2
            replace he := Lib.hid he
            go_wp2_with fail
            go_meet
            exact ⟨RN2, RX1, BN1⟩
        case' rest =>
          rename World => wz
          obtain ⟨RH, RX, B⟩ := hcut
        clear RN1 RX1 BN1
        have hsS : Hid (Obol.someS X (j + 1) = (so || decide (0 < e))) := Lib.hid (by
          show (Obol.someS X j || decide (0 < Obol.hiE X j)) = _
          rw [hso, ← he]
          congr 1
          exact decide_eq_decide.2 (by omega))
        have ce := RH.out.cell i.toNat (v := .int .i64 e) ((i64s_get i.toNat (by rw [Obol.hiS_len]; omega)).trans (by
          rw [hij.out]
          show some (Value.int .i64 ((((Obol.hiS X j).set j (Obol.hiE X j)).getD j 0 : Nat) : Int)) = _
          rw [Obol.getD_set _ _ _ _ (by rw [Obol.hiS_len]; omega), if_pos rfl, he]))
        replace he := Lib.hid he
        replace hso := Lib.hid hso
        cases so
        · by_cases hep : 0 < e
          · go_wp2_with fail
            go_roundw
            case rel => exact ⟨j + 1, by rw [hsS.out, decide_eq_true hep]; rfl, by simp; omega, by omega, RH, RX, B⟩
            case measure => simp [intOf]; omega
          · go_wp2_with fail
            go_roundw
            case rel => exact ⟨j + 1, by rw [hsS.out, decide_eq_false hep]; rfl, by simp; omega, by omega, RH, RX, B⟩
            case measure => simp [intOf]; omega
        · go_wp2_with fail
          go_roundw
          case rel => exact ⟨j + 1, by rw [hsS.out]; rfl, by simp; omega, by omega, RH, RX, B⟩
          case measure => simp [intOf]; omega
      · obtain rfl : j = 24 := by omega
        obtain rfl : i = 24 := by omega
        clear hi
        have hsv : Hid (Obol.someS X 24 = decide (0 < V / 1361129467683753853853498429727072845824)) := Lib.hid (by rw [← hX.out]; exact Obol.some_eq hV.out.1)
        have hHi : Hid (Obol.hiS X 24 = Obol.digs 24 (V / 1361129467683753853853498429727072845824)) := Lib.hid (by rw [Obol.hiS_eq, ← hX.out, Obol.highL_eq hV.out.1])
        have hLo : Hid ((X.take 17).set 16 (X.getD 16 0 % 4) = Obol.digs 17 (V % 1361129467683753853853498429727072845824)) := Lib.hid (by rw [← Obol.lowL_eq V, hX.out]; rfl)
        obtain ⟨g, cap2, w4, hap, hO, hb4⟩ := append_copyI wy x 0 17 40 (X.take 17) (by rw [List.length_take]; omega) (by omega) (by omega) (fun k hk => by
          rw [List.length_take] at hk
          rw [Nat.zero_add, RX.out.cell k (i64s_get k (by omega)), Obol.getD_take, if_pos (by omega)])
        have O := Lib.hid hO
        have RH4 := Lib.hid (RH.out.below hb4 RH.out.lt)
        have B4 := Lib.hid (bThen B.out hb4 B.out.size)
        have hwy : Hid (w.heap.size ≤ wy.heap.size) := Lib.hid B.out.size
        have hgh : Hid (h < g ∧ w.heap.size ≤ g) := Lib.hid (by have h1 := ownI_ge hO; have h2 := RH.out.lt; have h3 := B.out.size; omega)
        clear hO hb4 RH RX B
        obtain ⟨m, hm⟩ : ∃ z : Int, ((X.getD 16 0 : Nat) : Int) = z := ⟨_, rfl⟩
        have m0 : 0 ≤ m := by omega
        have t3 : m.tmod 4 = m % 4 := Int.tmod_eq_emod_of_nonneg m0
        have c := ownI_cell O.out 16 (by omega)
        rw [Obol.getD_take, if_pos (by omega), hm] at c
        have f := ownI_free O.out 16
        have ON := ownI_set O.out 16 (X.getD 16 0 % 4) (z := m % 4) (by rw [← hm]; rfl)
        rw [hLo.out] at ON
        replace ON := Lib.hid ON
        have RH5 := Lib.hid (RH4.out.other (c := g) (o := 16) (v := .int .i64 (m % 4)) (by have := hgh.out; omega))
        have B5 := Lib.hid (bSet (u := .int .i64 (m % 4)) (o := 16) B4.out hgh.out.2)
        rw [hHi.out] at RH5
        rw [hsv.out]
        replace hm := Lib.hid hm
        clear O RH4 B4
        by_cases hs : 0 < V / 1361129467683753853853498429727072845824
        · have hnx := Lib.hid (Obol.next_digs hV.out.1)
          have hnl := Lib.hid (Obol.nextV_lt hs)
          have hnm := Lib.hid (Obol.nextV_mod V)
          have hnb := Lib.hid (Obol.nextV_bound hV.out.1)
          obtain ⟨H, hH⟩ : ∃ l, Obol.digs 24 (V / 1361129467683753853853498429727072845824) = l := ⟨_, rfl⟩
          obtain ⟨L2, hL2⟩ : ∃ l, Obol.digs 17 (V % 1361129467683753853853498429727072845824) = l := ⟨_, rfl⟩
          have hHl : H.length = 24 := by rw [← hH, Obol.digs_len]
          have hLl : L2.length = 17 := by rw [← hL2, Obol.digs_len]
          have hHb : Hid (∀ i, H.getD i 0 < 256) := Lib.hid (fun i => by rw [← hH]; exact Obol.digs_lt _ _ i)
          have hLb : Hid (∀ i, L2.getD i 0 < 256) := Lib.hid (fun i => by rw [← hL2]; exact Obol.digs_lt _ _ i)
          rw [hH] at hnx RH5
          rw [hL2] at hnx ON
          rw [decide_eq_true hs]
          replace hs := Lib.hid hs
          clear hsv hHi hLo hH hL2
          have RH6 : Hid (Row (w4.setCell ⟨g, 16, none⟩ (.int .i64 (m % 4))) h (i64s (Obol.nxS H L2 0)) 3) := RH5
          clear RH5
          go_wp2_with (at_builtin; refine wpList_appended rfl _ _ _ _ rfl _ _ _ rfl rfl hap ?_)
          clear hap c f
          generalize w4.setCell ⟨g, 16, none⟩ (.int .i64 (m % 4)) = w5 at ON RH6 B5 ⊢
          go_loopw [9] (fun q1 wr => ∃ j : Nat, q1 = .int .i64 (j : Int) ∧ j ≤ 24 ∧ Hid (Row wr h (i64s (Obol.nxS H L2 j)) 3) ∧ Hid (OwnI wr wy.heap.size (.slice (some ⟨g, 0, none⟩) 17 cap2) L2) ∧ Hid (Below w.heap.size w wr)) (fun q1 _ => (24 - intOf q1).toNat)
          case atStart => exact ⟨0, rfl, by omega, RH6, ON, B5⟩
          case round =>
            clear RH6 ON B5
            rename World => wz
            obtain ⟨j, rfl, hj2, RH, O, B⟩ := hrel
            obtain ⟨i, hi⟩ : ∃ i : Int, (j : Int) = i := ⟨_, rfl⟩
            rw [hi]
            have i0 : 0 ≤ i := by omega
            by_cases hj24 : j < 24
            · have i1 : i < 24 := by omega
              have hij : Hid (i.toNat = j) := Lib.hid (by omega)
              obtain ⟨p, hp⟩ : ∃ z : Int, (((Obol.nxS H L2 j).getD i.toNat 0 : Nat) : Int) = z := ⟨_, rfl⟩
              have hpb := Obol.nxS_le hHl hHb.out hLb.out hj2 i.toNat
              have p0 : 0 ≤ p := by omega
              have ch := RH.out.cell i.toNat (v := .int .i64 p) ((i64s_get _ (by rw [Obol.nxS_len]; omega)).trans (by rw [hp]))
              have fh := RH.out.free i.toNat
              have w1 := wrap_small (x := 5 * p) (by omega) (by omega)
              by_cases hj17 : j < 17
              · have i2 : i < 17 := by omega
                obtain ⟨q, hq⟩ : ∃ z : Int, ((L2.getD i.toNat 0 : Nat) : Int) = z := ⟨_, rfl⟩
                have hqb := hLb.out i.toNat
                have cl := ownI_cell O.out i.toNat (by omega)
                rw [hq] at cl
                have w2 := wrap_small (x := 5 * p + q) (by omega) (by omega)
                have RN : Hid (Row (wz.setCell ⟨h, i.toNat, none⟩ (.int .i64 (5 * p + q))).drew h (i64s (Obol.nxS H L2 (j + 1))) 3) := Lib.hid (by
                  have h2 := (rowSetI RH.out i.toNat (5 * (Obol.nxS H L2 j).getD i.toNat 0 + L2.getD i.toNat 0) (z := 5 * p + q) (by rw [← hp, ← hq]; simp)).drew
                  rw [hij.out] at h2 ⊢
                  show Row _ _ (i64s ((Obol.nxS H L2 j).set j (if j < 17 then 5 * (Obol.nxS H L2 j).getD j 0 + L2.getD j 0 else 5 * (Obol.nxS H L2 j).getD j 0))) _
                  rw [if_pos hj17]; exact h2)
                have ON : Hid (OwnI (wz.setCell ⟨h, i.toNat, none⟩ (.int .i64 (5 * p + q))).drew wy.heap.size (.slice (some ⟨g, 0, none⟩) 17 cap2) L2) := Lib.hid ((ownI_other O.out (by have := hgh.out; omega)).drew)
                have BN := Lib.hid (bDrew (bSet (u := .int .i64 (5 * p + q)) (o := i.toNat) B.out (show w.heap.size ≤ h by have := hne.out; omega)))
                replace hp := Lib.hid hp
                replace hq := Lib.hid hq
                clear hpb hqb RH O B
                go_wp2_with fail
                go_region
                go_wp2_with fail
                go_roundw
                case rel => exact ⟨j + 1, by simp; omega, by omega, RN, ON, BN⟩
                case measure => simp [intOf]; omega
              · have i2 : ¬ i < 17 := by omega
                have RN : Hid (Row (wz.setCell ⟨h, i.toNat, none⟩ (.int .i64 (5 * p))) h (i64s (Obol.nxS H L2 (j + 1))) 3) := Lib.hid (by
                  have h2 := rowSetI RH.out i.toNat (5 * (Obol.nxS H L2 j).getD i.toNat 0) (z := 5 * p) (by rw [← hp]; simp)
                  rw [hij.out] at h2 ⊢
                  show Row _ _ (i64s ((Obol.nxS H L2 j).set j (if j < 17 then 5 * (Obol.nxS H L2 j).getD j 0 + L2.getD j 0 else 5 * (Obol.nxS H L2 j).getD j 0))) _
                  rw [if_neg hj17]; exact h2)
                have ON : Hid (OwnI (wz.setCell ⟨h, i.toNat, none⟩ (.int .i64 (5 * p))) wy.heap.size (.slice (some ⟨g, 0, none⟩) 17 cap2) L2) := Lib.hid (ownI_other O.out (by have := hgh.out; omega))
                have BN := Lib.hid (bSet (u := .int .i64 (5 * p)) (o := i.toNat) B.out (show w.heap.size ≤ h by have := hne.out; omega))
                replace hp := Lib.hid hp
                clear hpb RH O B
                go_wp2_with fail
                go_roundw
                case rel => exact ⟨j + 1, by simp; omega, by omega, RN, ON, BN⟩
                case measure => simp [intOf]; omega
            · obtain rfl : j = 24 := by omega
              obtain rfl : i = 24 := by omega
              clear hi
              have cc := cC.out h 24 24 (Obol.nxS H L2 24) (by rw [Obol.nxS_len, hHl]) (fun i => Nat.le_trans (Obol.nxS_le hHl hHb.out hLb.out (Nat.le_refl _) i) (by omega)) 40 (by omega) (by omega) wz RH.out.lt RH.out.dl
              rw [Obol.nxS_eq hHl, hnx.out] at cc
              replace cc := Lib.hid cc
              clear RH O
              go_wp2_with fail
              refine cc.out.mono ?_
              rintro e w9 ⟨rfl, hR9, hb9⟩
              have R9 := Lib.hid hR9
              have B9 := Lib.hid (bThen B.out hb9 B.out.size)
              have hm9 := Lib.hid (rmeas_row hR9 hnb.out 40 40)
              have hx9 := B.out.size
              clear hR9 hb9 cc B
              go_wp2_with fail
              go_roundw
              case rel => exact ⟨_, _, rfl, hx9, Lib.hid ⟨hnb.out, by rw [hnm.out]; exact hV.out.2⟩, R9, B9⟩
              case measure => rw [hm9.out, hme.out]; exact hnl.out
        · have hz : V / 1361129467683753853853498429727072845824 = 0 := by omega
          have hVl : Hid (V % 1361129467683753853853498429727072845824 = V) := Lib.hid (Nat.mod_eq_of_lt (by omega))
          have hld := Obol.last_digs hz
          rw [hV.out.2] at hld
          rw [decide_eq_false hs]
          rw [hVl.out] at ON
          obtain ⟨L2, hL2⟩ : ∃ l, Obol.digs 17 V = l := ⟨_, rfl⟩
          have hLl : L2.length = 17 := by rw [← hL2, Obol.digs_len]
          have hLb : Hid (∀ i, L2.getD i 0 < 256) := Lib.hid (fun i => by rw [← hL2]; exact Obol.digs_lt _ _ i)
          rw [hL2] at ON hld
          replace hs := Lib.hid hs
          replace hz := Lib.hid hz
          have cl2 := Lib.hid (cL.out g cap2 L2 hLl _ (ownI_dl ON.out))
          clear hsv hHi hLo hL2 RH5
          go_wp2_with (at_builtin; refine wpList_appended rfl _ _ _ _ rfl _ _ _ rfl rfl hap ?_)
          refine cl2.out.mono ?_
          rintro e w6 ⟨rfl, rfl⟩
          clear hap c f cl2
          generalize w4.setCell ⟨g, 16, none⟩ (.int .i64 (m % 4)) = w5 at ON B5 ⊢
          by_cases hle : Obol.lessL L2 = true
          · rw [if_pos hle] at hld
            rw [hle]
            rw [hld] at ON
            replace hld := Lib.hid hld
            have OF := Lib.hid (ON.out.base hwy.out)
            go_wp2_with fail
            go_ret
            exact ⟨g, cap2, rfl, OF.out, B5.out⟩
          · rw [if_neg hle] at hld
            have hlf : Obol.lessL L2 = false := by simpa using hle
            rw [hlf]
            obtain ⟨v, hv⟩ : ∃ z : Int, ((L2.getD 0 0 : Nat) : Int) = z := ⟨_, rfl⟩
            have hvb := hLb.out 0
            have w1 := wrap_small (x := v + 5) (by omega) (by omega)
            have c := ownI_cell ON.out 0 (by omega)
            rw [hv] at c
            have f := ownI_free ON.out 0
            have O2 := ownI_set ON.out 0 (L2.getD 0 0 + 5) (z := v + 5) (by rw [← hv]; simp)
            have hgw := hgh.out.2
            have B6 := Lib.hid (bSet (u := .int .i64 (v + 5)) (o := 0) B5.out hgw)
            obtain ⟨L5, hL5⟩ : ∃ l, L2.set 0 (L2.getD 0 0 + 5) = l := ⟨_, rfl⟩
            have hl5 : L5.length = 17 := by rw [← hL5, List.length_set, hLl]
            have hb5 : ∀ i, L5.getD i 0 ≤ 1099511627776 := fun i => by
              rw [← hL5, Obol.getD_set _ _ _ _ (by omega)]
              have := hLb.out i
              split <;> omega
            rw [hL5] at O2 hld
            have cc := Lib.hid (cC.out g 17 cap2 L5 hl5 hb5 17 (by omega) (by omega) _ (ownI_lt O2) (ownI_dl O2))
            replace hv := Lib.hid hv
            clear O2 hL5 hb5 ON hvb hle hlf
            go_wp2_with fail
            refine cc.out.mono ?_
            rintro e w8 ⟨rfl, hR8, hb8⟩
            have B8 := Lib.hid (bThen B6.out hb8 B6.out.size)
            obtain ⟨C, hC⟩ : ∃ l, Obol.carrL L5 17 = l := ⟨_, rfl⟩
            rw [hC] at hR8 hld
            have hCl : C.length = 17 := by rw [← hC, Obol.carrL, Obol.carrS_len]
            obtain ⟨u, hu⟩ : ∃ z : Int, ((C.getD 16 0 : Nat) : Int) = z := ⟨_, rfl⟩
            have u0 : 0 ≤ u := by omega
            have t4 : u.tmod 4 = u % 4 := Int.tmod_eq_emod_of_nonneg u0
            have hlo2 : C.set 16 (C.getD 16 0 % 4) = Obol.lowL C := by unfold Obol.lowL; rw [List.take_of_length_le (by omega)]
            rw [← hlo2] at hld
            have R9 := rowSetI hR8 16 (C.getD 16 0 % 4) (z := u % 4) (by rw [← hu]; rfl)
            rw [hld] at R9
            obtain ⟨g2, hg2⟩ : ∃ z, (w5.setCell ⟨g, 0, none⟩ (.int .i64 (v + 5))).heap.size = z := ⟨_, rfl⟩
            have hgs : w.heap.size ≤ g2 := by rw [← hg2]; exact B6.out.size
            have c2 := hR8.cell 16 (v := .int .i64 u) ((i64s_get _ (by omega)).trans (by rw [hu]))
            have f2 := hR8.free 16
            have hsz2 : w5.heap.size = g2 := by rw [← hg2]; simp
            rw [hg2] at R9 c2 f2
            have OF := Lib.hid (OwnI.of R9 (Obol.digs_len _ _) hgs (by omega))
            have B9 := Lib.hid (bSet (u := .int .i64 (u % 4)) (o := 16) B8.out hgs)
            replace hu := Lib.hid hu
            replace hld := Lib.hid hld
            replace hg2 := Lib.hid hg2
            clear R9 hR8 hb8 hC hlo2
            simp only [World.size_setCell, hsz2]
            replace hsz2 := Lib.hid hsz2
            go_wp2_with fail
            go_ret
            exact ⟨g2, 17, rfl, OF.out, B9.out⟩

end Go.Proofs.YtallfmiikjmgaaaDoor
