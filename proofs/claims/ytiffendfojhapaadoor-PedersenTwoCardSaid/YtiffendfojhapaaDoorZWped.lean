import Derived.Test.YtiffendfojhapaaDoorZWfindd
import Derived.Test.YtiffendfojhapaaDoorZSchp
import Derived.Test.YtiffendfojhapaaDoorMB
import Derived.Deep.CutBlock
import Derived.Deep.DeepCutAuto
set_option linter.unusedVariables false
set_option linter.unusedSimpArgs false
/- Walks: package pedersen: bases, commitments; a commitment by the document. -/
namespace Go.Proofs.YtiffendfojhapaaDoor
open Go.RowKit

/-! numbers in memory -/
def UL (w : World) (b o : Nat) (L : List Nat) : Prop := ∀ i, i < L.length → w.cell? ⟨b, o + i, none⟩ = some (.int .u64 ((L.getD i 0 : Nat) : Int))
theorem UL.below {B : Nat} {w w' : World} {b o : Nat} {L : List Nat} (h : UL w b o L) (hb : Below B w w') (hB : b < B) : UL w' b o L := fun i hi => (hb.cell (p := ⟨b, o + i, none⟩) hB).trans (h i hi)
theorem UL.lt {w : World} {b o : Nat} {L : List Nat} (h : UL w b o L) (h0 : 0 < L.length) : b < w.heap.size := World.block_lt_of_cell? w ⟨b, o + 0, none⟩ (h 0 h0)
structure U64 (n : Nat) (L : List Nat) : Prop where
  len : L.length = n
  lt : ∀ i, L.getD i 0 < 18446744073709551616
structure SlU (base : Nat) (w : World) (a : Option Addr) (c : Nat) (R : List Nat) : Prop where
  le : R.length ≤ c
  cap : c ≤ 9223372036854775807
  no : a = none → R.length = 0 ∧ c = 0
  bl : 0 < R.length → ∃ b o, a = some ⟨b, o, none⟩ ∧ b < base ∧ UL w b o R
theorem SlU.at {w W : World} {a : Option Addr} {c : Nat} {R : List Nat} (h : SlU w.heap.size w a c R) (hw : Below w.heap.size w W) : SlU W.heap.size W a c R :=
  ⟨h.le, h.cap, h.no, fun h0 => by
    obtain ⟨b, o, h1, h2, h3⟩ := h.bl h0
    exact ⟨b, o, h1, Nat.lt_of_lt_of_le h2 hw.size, h3.below hw h2⟩⟩

/-! commitments -/
abbrev pedS : ByteArray := { data := #[112, 101, 100, 101, 114, 115, 101, 110] }
noncomputable def baseP : Nat → Option Obol.Pt := (Obol.shut fun (n : Nat) => findR (strL pedS) n 128 0).1
theorem baseP_eq (n : Nat) : baseP n = findR (strL pedS) n 128 0 := congrFun (Obol.shut fun (n : Nat) => findR (strL pedS) n 128 0).2 n
theorem base_S {n : Nat} {q : Obol.Pt} (h : baseP n = some q) : q ≠ Obol.Pnt.zero ∧ Obol.Pnt.smul 72057593894066549 q = Obol.Pnt.zero := by
  rw [baseP_eq] at h
  exact find_S _ _ h
noncomputable def comN (x : Nat) (V : List Nat) : Nat → Option Obol.Pt
  | 0 => (baseP 0).map (Obol.Pnt.smul (x % 72057593894066549))
  | j + 1 => match comN x V j with
    | none => none
    | some o => (baseP (j + 1)).map fun b => o.add (Obol.Pnt.smul (V.getD j 0 % 72057593894066549) b)
theorem com_next {x : Nat} {V : List Nat} {j : Nat} {o b : Obol.Pt} (h : comN x V j = some o) (hb : baseP (j + 1) = some b) : comN x V (j + 1) = some (o.add (Obol.Pnt.smul (V.getD j 0 % 72057593894066549) b)) := by
  rw [comN, h, hb]; rfl
theorem com_stop {x : Nat} {V : List Nat} {j : Nat} {o : Obol.Pt} (h : comN x V j = some o) (hb : baseP (j + 1) = none) : comN x V (j + 1) = none := by
  rw [comN, h, hb]; rfl
theorem com_none {x : Nat} {V : List Nat} {j : Nat} (h : comN x V j = none) : ∀ n, j ≤ n → comN x V n = none
  | 0, hn => by obtain rfl : j = 0 := by omega
                exact h
  | n + 1, hn => by
    by_cases e : j = n + 1
    · rw [← e]; exact h
    · rw [comN, com_none h n (by omega)]
theorem com_first {x : Nat} {V : List Nat} {b : Obol.Pt} (hb : baseP 0 = some b) : comN x V 0 = some (Obol.Pnt.smul (x % 72057593894066549) b) := by
  rw [comN, hb]; rfl
theorem com_first_no {x : Nat} {V : List Nat} (hb : baseP 0 = none) : comN x V 0 = none := by
  rw [comN, hb]; rfl
theorem smul_killed {p : Obol.Pt} (h : Obol.Pnt.smul 72057593894066549 p = Obol.Pnt.zero) (a : Nat) : Obol.Pnt.smul 72057593894066549 (Obol.Pnt.smul a p) = Obol.Pnt.zero := by
  rw [← Obol.Pnt.smul_mul, Nat.mul_comm, Obol.Pnt.smul_mul, h, Obol.Pnt.smul_zero]
theorem com_S {x : Nat} {V : List Nat} : ∀ (j : Nat) {q : Obol.Pt}, comN x V j = some q → Obol.Pnt.smul 72057593894066549 q = Obol.Pnt.zero
  | 0, q, h => by
    cases hb : baseP 0 with
    | none => rw [com_first_no hb] at h; cases h
    | some b =>
      rw [com_first hb] at h
      obtain rfl := Option.some.inj h
      exact smul_killed (base_S hb).2 _
  | j + 1, q, h => by
    cases ho : comN x V j with
    | none => rw [com_none ho (j + 1) (by omega)] at h; cases h
    | some o =>
      cases hb : baseP (j + 1) with
      | none => rw [com_stop ho hb] at h; cases h
      | some b =>
        rw [com_next ho hb] at h
        obtain rfl := Option.some.inj h
        exact Obol.smul_add_S (com_S j ho) (smul_killed (base_S hb).2 _)

theorem pBaseY (n : Int) (n0 : 0 ≤ n) (n1 : n ≤ 18446744073709551615) {q : Obol.Pt} (h : baseP n.toNat = some q) (w : World) (hG : RowsAt w) :
    Calls Tryd.prog 60 #[.int .u64 n] w fun e w' => e = .returned (.tuple #[ptV q, .nilIface]) ∧ Below w.heap.size w w' := by
  have hF := Lib.hid (fun W (hw : Below w.heap.size w W) => eFindD pedS (by decide) n n0 n1 W (hG.below hw))
  rw [← baseP_eq, h] at hF
  obtain ⟨x, y, -, -, -, -, hv, -⟩ := coordsN q
  change Hid (∀ W, _ → Calls _ _ _ _ fun e w' => e = .returned (.tuple #[ptV q, .nilIface]) ∧ _) at hF
  rw [hv] at hF
  have HV := Lib.hid hv
  clear hv h
  go_enter Tryd.func60, Tryd.ntmps60
  go_wp2_with fail
  refine (hF.out _ (bAlloc (Below.refl _ _) _)).mono ?_
  rintro e w1 ⟨rfl, hb⟩
  obtain ⟨hc, hf⟩ := bcell hb; have hz := hb.size; (try simp at hz)
  go_wp2_with fail
  refine bodyPost_ret (v := .tuple #[edV x y, .nilIface]) (by simp [results, Tryd.results60, go_sem, hc]) rfl ⟨by rw [HV.out], ?_⟩
  repeat (first | exact Below.refl _ _ | assumption | apply bDrewN | apply bDrew | apply bAlloc | refine bSet ?_ (by omega) | refine bThen ?_ (by assumption) (by simp <;> omega))
theorem pBaseN (n : Int) (n0 : 0 ≤ n) (n1 : n ≤ 18446744073709551615) (h : baseP n.toNat = none) (w : World) (hG : RowsAt w) :
    Calls Tryd.prog 60 #[.int .u64 n] w fun e w' => e = .returned (.tuple #[edV 0 0, errC 2]) ∧ Below w.heap.size w w' := by
  have hF := Lib.hid (fun W (hw : Below w.heap.size w W) => eFindD pedS (by decide) n n0 n1 W (hG.below hw))
  rw [← baseP_eq, h] at hF
  change Hid (∀ W, _ → Calls _ _ _ _ fun e w' => e = .returned (.tuple #[edV 0 0, errC 2]) ∧ _) at hF
  clear h
  go_enter Tryd.func60, Tryd.ntmps60
  go_wp2_with fail
  refine (hF.out _ (bAlloc (Below.refl _ _) _)).mono ?_
  rintro e w1 ⟨rfl, hb⟩
  obtain ⟨hc, hf⟩ := bcell hb; have hz := hb.size; (try simp at hz)
  go_wp2_with fail
  refine bodyPost_ret (v := .tuple #[edV 0 0, errC 2]) (by simp [results, Tryd.results60, go_sem, hc]) rfl ⟨rfl, ?_⟩
  repeat (first | exact Below.refl _ _ | assumption | apply bDrewN | apply bDrew | apply bAlloc | refine bSet ?_ (by omega) | refine bThen ?_ (by assumption) (by simp <;> omega))
theorem u64_at {n : Nat} {L : List Nat} (H : U64 n L) {i : Int} (_h0 : 0 ≤ i) (_h1 : i < n) : ∃ v : Int, ((L.getD i.toNat 0 : Nat) : Int) = v ∧ 0 ≤ v ∧ v ≤ 18446744073709551615 := ⟨_, rfl, by omega, by have := H.lt i.toNat; omega⟩

set_option maxRecDepth 8000 in
set_option maxHeartbeats 4000000 in
theorem pCommit (x : Int) (x0 : 0 ≤ x) (x1 : x ≤ 18446744073709551615) (ao : Option Addr) (len cap : Nat) (V : List Nat) (HV0 : U64 len V) (hl : len ≤ 16) (w : World) (hS0 : SlU w.heap.size w ao cap V) (hG0 : RowsAt w) :
    Calls Tryd.prog 36 #[.slice ao len cap, .int .u64 x] w fun e w' => e = .returned (findV (comN x.toNat V len)) ∧ Below w.heap.size w w' := by
  have HV := Lib.hid HV0
  have hS := Lib.hid hS0
  have hG := Lib.hid hG0
  have hli : (len : Int) ≤ 16 := by omega
  have ht : x.tmod 72057593894066549 = x % 72057593894066549 := Int.tmod_eq_emod_of_nonneg x0
  obtain ⟨R, hR⟩ : ∃ R, comN x.toNat V len = R := ⟨_, rfl⟩
  rw [hR]
  replace hR := Lib.hid hR
  clear hS0 hG0 HV0
  go_enter Tryd.func36, Tryd.ntmps36
  go_wp2_with fail
  have H0 := Lib.hid ((HR.refl w).new #[.int .u64 0, .int .u64 0] 37)
  generalize w.alloc (.cells #[.int .u64 0, .int .u64 0] 37) = w0 at H0 ⊢
  obtain ⟨b4, hb4⟩ : ∃ b, w.heap.size = b := ⟨_, rfl⟩
  rw [hb4] at H0 ⊢
  cases hB0 : baseP 0 with
  | none =>
    have hRn : R = none := by rw [← hR.out]; exact com_none (com_first_no hB0) len (Nat.zero_le _)
    subst hRn
    refine (pBaseN 0 (by omega) (by omega) hB0 _ (hG.out.below H0.out.2)).mono ?_
    rintro e w1 ⟨rfl, hb1⟩
    have H1 := Lib.hid ((H0.out.next hb1).alloc (.cells #[.int .u64 0, .int .u64 0] 37))
    clear hb1 H0 hB0 hR
    go_upto_region 4 with fail
    generalize w1.alloc (.cells #[.int .u64 0, .int .u64 0] 37) = w2 at H1 ⊢
    have c_b4_0 := H1.out.cell (b := b4) (cs := #[.int .u64 0, .int .u64 0]) (t := 37) (by simp) 0 rfl
    have c_b4_1 := H1.out.cell (b := b4) (cs := #[.int .u64 0, .int .u64 0]) (t := 37) (by simp) 1 rfl
    have f_b4_0 := H1.out.free (b := b4) (cs := #[.int .u64 0, .int .u64 0]) (t := 37) (by simp) 0
    have f_b4_1 := H1.out.free (b := b4) (cs := #[.int .u64 0, .int .u64 0]) (t := 37) (by simp) 1
    go_wp2_with fail
    refine bodyPost_ret (v := .tuple #[edV 0 0, errC 2]) (by simp [results, Tryd.results36, go_sem, c_b4_0, c_b4_1]) rfl ⟨rfl, ?_⟩
    rw [← hb4]
    exact bSet (bSet H1.out.2 (by omega)) (by omega)
  | some b0 =>
    refine (pBaseY 0 (by omega) (by omega) hB0 _ (hG.out.below H0.out.2)).mono ?_
    rintro e w1 ⟨rfl, hb1⟩
    obtain ⟨px, py, px0, py0, -, -, hv0, hn0⟩ := coordsN b0
    rw [hv0]
    have H1 := Lib.hid ((H0.out.next hb1).new #[.int .u64 px, .int .u64 py] 37)
    have hl1 : b4 < w1.heap.size := by have := hb1.size; have := H0.out.lt (b := b4) (cs := #[.int .u64 0, .int .u64 0]) (t := 37) (by simp); omega
    have cM := fun w => gMul px py (x % 72057593894066549) px0 py0 (by omega) (by omega) w
    rw [hn0, Obol.of_n, show (x % 72057593894066549).toNat = x.toNat % 72057593894066549 by omega] at cM
    have hC0 : ∃ o, comN x.toNat V 0 = some o := ⟨_, com_first hB0⟩
    have hC1 := com_first (x := x.toNat) (V := V) hB0
    generalize Obol.Pnt.smul (x.toNat % 72057593894066549) b0 = o0 at cM hC1
    obtain ⟨ox, oy, -, -, -, -, hvo, -⟩ := coordsN o0
    rw [hvo] at cM
    replace cM := Lib.hid cM
    clear hb1 H0 hB0 hn0 hv0 px0 py0 hC0
    go_upto_region 4 with fail
    generalize w1.alloc (.cells #[.int .u64 px, .int .u64 py] 37) = w2 at H1 ⊢
    generalize w1.heap.size = b6 at H1 hl1 ⊢
    have c_b6_0 := H1.out.cell (b := b6) (cs := #[.int .u64 px, .int .u64 py]) (t := 37) (by simp) 0 rfl
    have c_b6_1 := H1.out.cell (b := b6) (cs := #[.int .u64 px, .int .u64 py]) (t := 37) (by simp) 1 rfl
    have c_b4_0 := H1.out.cell (b := b4) (cs := #[.int .u64 0, .int .u64 0]) (t := 37) (by simp) 0 rfl
    have c_b4_1 := H1.out.cell (b := b4) (cs := #[.int .u64 0, .int .u64 0]) (t := 37) (by simp) 1 rfl
    go_wp2_with fail
    refine (cM.out _).mono ?_
    rintro e w3 ⟨rfl, hb3⟩
    have H3 := Lib.hid (((H1.out.next hb3).new #[.int .u64 ox, .int .u64 oy] 37))
    have hl3 : b4 < w3.heap.size := by have := hb3.size; have := H1.out.lt (b := b4) (cs := #[.int .u64 0, .int .u64 0]) (t := 37) (by simp); omega
    clear c_b6_0 c_b6_1 c_b4_0 c_b4_1
    clear hb3 H1
    go_wp2_with fail
    generalize w3.alloc (.cells #[.int .u64 ox, .int .u64 oy] 37) = w4 at H3 ⊢
    generalize w3.heap.size = b8 at H3 hl3 ⊢
    replace H3 := Lib.hid (HR.sub (qs := [(b8, #[.int .u64 ox, .int .u64 oy], 37), (b4, #[.int .u64 0, .int .u64 0], 37)]) H3.out (by simp))
    go_loopw [32] (fun q1 wr => ∃ (j : Nat) (o : Obol.Pt) (ox oy : Int), q1 = .int .i64 (j : Int) ∧ j ≤ len ∧ Hid (comN x.toNat V j = some o) ∧ Hid (ptV o = edV ox oy) ∧ Hid (HR w wr [(b8, #[.int .u64 ox, .int .u64 oy], 37), (b4, #[.int .u64 0, .int .u64 0], 37)])) (fun q1 _ => (len - intOf q1).toNat)
    case atStart => exact ⟨0, o0, ox, oy, rfl, Nat.zero_le _, Lib.hid hC1, Lib.hid hvo, H3⟩
    case round =>
      clear H3 hvo hC1 cM
      obtain ⟨j, o, ox, oy, rfl, hj, hC, hvo, H⟩ := hrel
      obtain ⟨i, hi⟩ : ∃ i : Int, (j : Int) = i := ⟨_, rfl⟩
      rw [hi]
      have i0 : 0 ≤ i := by omega
      by_cases hjl : j < len
      · have i1 : i < (len : Int) := by omega
        obtain ⟨v, hv, v0, v1⟩ := u64_at HV.out (i := i) i0 i1
        obtain ⟨vb, vo, rfl, hvb, hul⟩ := hS.out.bl (by rw [HV.out.len]; omega)
        have cv : wr.cell? ⟨vb, vo + i.toNat, none⟩ = some (.int .u64 v) := by rw [← hv]; exact (hul.below H.out.2 hvb) i.toNat (by rw [HV.out.len]; omega)
        have htv : v.tmod 72057593894066549 = v % 72057593894066549 := Int.tmod_eq_emod_of_nonneg v0
        have hvn : v.toNat = V.getD j 0 := by rw [show j = i.toNat by omega]; omega
        have hw1 := wrap_small (x := i + 1) (by omega) (by omega)
        have hu1 : IntKind.u64.wrap (i + 1) = i + 1 := by rw [IntKind.wrap_u64]; omega
        have hvn' := Lib.hid hvn
        replace hv := Lib.hid hv
        clear hvn
        cases hBj : baseP (j + 1) with
        | none =>
          have hRn : R = none := by rw [← hR.out]; exact com_none (com_stop hC.out hBj) len (by omega)
          subst hRn
          have cB := Lib.hid (fun W (hw : Below w.heap.size w W) => pBaseN (i + 1) (by omega) (by omega) (by rw [show (i + 1).toNat = j + 1 by omega]; exact hBj) W (hG.out.below hw))
          clear hBj hC
          go_wp2_with fail
          refine (cB.out _ H.out.2).mono ?_
          rintro e w5 ⟨rfl, hb5⟩
          have H5 := Lib.hid ((H.out.next hb5).alloc (.cells #[.int .u64 0, .int .u64 0] 37))
          go_upto_region 11 with fail
          generalize w5.alloc (.cells #[.int .u64 0, .int .u64 0] 37) = w6 at H5 ⊢
          have c_b8_0 := H5.out.cell (b := b8) (cs := #[.int .u64 ox, .int .u64 oy]) (t := 37) (by simp) 0 rfl
          have c_b8_1 := H5.out.cell (b := b8) (cs := #[.int .u64 ox, .int .u64 oy]) (t := 37) (by simp) 1 rfl
          have c_b4_0 := H5.out.cell (b := b4) (cs := #[.int .u64 0, .int .u64 0]) (t := 37) (by simp) 0 rfl
          have c_b4_1 := H5.out.cell (b := b4) (cs := #[.int .u64 0, .int .u64 0]) (t := 37) (by simp) 1 rfl
          have f_b4_0 := H5.out.free (b := b4) (cs := #[.int .u64 0, .int .u64 0]) (t := 37) (by simp) 0
          have f_b4_1 := H5.out.free (b := b4) (cs := #[.int .u64 0, .int .u64 0]) (t := 37) (by simp) 1
          go_wp2_with fail
          refine bodyPost_ret (v := .tuple #[edV 0 0, errC 2]) (by simp [results, Tryd.results36, go_sem, c_b4_0, c_b4_1]) rfl ⟨rfl, ?_⟩
          rw [← hb4]
          exact bSet (bSet H5.out.2 (by omega)) (by omega)
        | some q =>
          have cB := fun W (hw : Below w.heap.size w W) => pBaseY (i + 1) (by omega) (by omega) (q := q) (by rw [show (i + 1).toNat = j + 1 by omega]; exact hBj) W (hG.out.below hw)
          have hCn := com_next hC.out hBj
          rw [← hvn'.out] at hCn
          obtain ⟨qx, qy, qx0, qy0, -, -, hvq, hnq⟩ := coordsN q
          have cM := fun w => gMul qx qy (v % 72057593894066549) qx0 qy0 (by omega) (by omega) w
          rw [hnq, Obol.of_n, show (v % 72057593894066549).toNat = v.toNat % 72057593894066549 by omega] at cM
          generalize Obol.Pnt.smul (v.toNat % 72057593894066549) q = m at cM hCn
          obtain ⟨mx, my, mx0, my0, -, -, hvm, hnm⟩ := coordsN m
          have cA := fun w => gAdd ox oy mx my (pt_pos hvo.out).1 (pt_pos hvo.out).2 mx0 my0 w
          rw [n_of hvo.out (pt_pos hvo.out).1 (pt_pos hvo.out).2, hnm, Obol.of_n, Obol.of_n] at cA
          generalize o.add m = o' at cA hCn
          obtain ⟨sx, sy, -, -, -, -, hvs, -⟩ := coordsN o'
          rw [hvs] at cA
          rw [hvm] at cM
          rw [hvq] at cB
          replace cM := Lib.hid cM
          replace cA := Lib.hid cA
          replace cB := Lib.hid cB
          replace hCn := Lib.hid hCn
          replace hvs := Lib.hid hvs
          clear hvm hnm hvq hnq qx0 qy0 mx0 my0 hBj hC hvo
          go_wp2_with fail
          refine (cB.out _ H.out.2).mono ?_
          rintro e w5 ⟨rfl, hb5⟩
          have H5 := Lib.hid ((H.out.next hb5).new #[.int .u64 qx, .int .u64 qy] 37)
          have hl5 : b8 < w5.heap.size := by have := hb5.size; have := H.out.lt (b := b8) (cs := #[.int .u64 ox, .int .u64 oy]) (t := 37) (by simp); omega
          go_upto_region 11 with fail
          generalize w5.alloc (.cells #[.int .u64 qx, .int .u64 qy] 37) = w6 at H5 ⊢
          generalize w5.heap.size = b11 at H5 hl5 ⊢
          replace H5 := Lib.hid (HR.sub (qs := [(b8, #[.int .u64 ox, .int .u64 oy], 37), (b11, #[.int .u64 qx, .int .u64 qy], 37), (b4, #[.int .u64 0, .int .u64 0], 37)]) H5.out (by simp))
          go_wp2_with fail
          have H5t := Lib.hid (HR.sub (qs := [(b11, #[.int .u64 qx, .int .u64 qy], 37), (b4, #[.int .u64 0, .int .u64 0], 37)]) H5.out (by simp))
          have hf0 := HR.drew H5.out
          refine wp_region_noPanic ?_
          refine wp_region_held_drew (S := fun wq => wq.cell? ⟨b11, 0, none⟩ = some (.int .u64 qx) ∧ wq.cell? ⟨b11, 1, none⟩ = some (.int .u64 qy) ∧ HR w wq [(b11, #[.int .u64 qx, .int .u64 qy], 37), (b4, #[.int .u64 0, .int .u64 0], 37)]) (by kernel_rfl) ?_ (fun hHeld => ?_)
          · have hq0 := HR.drew H5t.out
            exact ⟨HR.cell hq0 (b := b11) (cs := #[.int .u64 qx, .int .u64 qy]) (t := 37) (by simp) 0 rfl, HR.cell hq0 (b := b11) (cs := #[.int .u64 qx, .int .u64 qy]) (t := 37) (by simp) 1 rfl, hq0⟩
          refine takeH 1 (fun _ _ _ _ _ h => h) (by kernel_rfl) hHeld rfl (by kernel_rfl) (by rfl) (v := ?_) ?_ ?_
          rotate_left
          ((intro wz hz; (try dsimp only at hz); go_simp) <;> with_reducible rfl)
          try simp only [Act.put, List.setIfInBounds_toArray, List.set_cons_zero, List.set_cons_succ]
          refine takeH 2 (fun _ _ _ _ _ h => h) (by kernel_rfl) hHeld rfl (by kernel_rfl) (by rfl) (v := ?_) ?_ ?_
          rotate_left
          ((intro wz hz; (try dsimp only at hz); go_simp) <;> with_reducible rfl)
          try simp only [Act.put, List.setIfInBounds_toArray, List.set_cons_zero, List.set_cons_succ]
          refine takeH 3 (fun _ _ _ _ _ h => h) (by kernel_rfl) hHeld rfl (by kernel_rfl) (by rfl) (v := ?_) ?_ ?_
          rotate_left
          ((intro wz hz; (try dsimp only at hz); go_simp) <;> with_reducible rfl)
          try simp only [Act.put, List.setIfInBounds_toArray, List.set_cons_zero, List.set_cons_succ]
          refine wpAnyH_ready (rs := [0, 4]) (by kernel_rfl) (by simp) ?_
          refine AllReadyH.cons (i := 0) (by rw [List.getElem?_toArray]; exact rfl) (fun K hK => ?_) (AllReadyH.cons (i := 4) (by rw [List.getElem?_toArray]; exact rfl) (fun K hK => ?_) AllReadyH.nil)
          · have e0 := hf0.cell (b := b8) (cs := #[.int .u64 ox, .int .u64 oy]) (t := 37) (by simp) 0 rfl
            have e1 := hf0.cell (b := b8) (cs := #[.int .u64 ox, .int .u64 oy]) (t := 37) (by simp) 1 rfl
            go_simp
            refine hK.out _ _ ?_ (fun hHeld => ?_)
            · exact hHeld
            clear e0 e1
            clear hK K
            try simp only [Act.put, List.setIfInBounds_toArray, List.set_cons_zero, List.set_cons_succ]
            refine stepH 4 (by kernel_rfl) rfl (by rfl) (fun K hK => ?_)
            go_simp
            refine (cM.out _).mono ?_
            rintro e wa1 ⟨rfl, hba1⟩
            have hra1 := HR.next hHeld.2.2 hba1
            have hf1 := HR.next hf0 hba1
            refine hK.out _ _ ?_ (fun hHeld => ?_)
            · exact ⟨HR.cell hra1 (b := b11) (cs := #[.int .u64 qx, .int .u64 qy]) (t := 37) (by simp) 0 rfl, HR.cell hra1 (b := b11) (cs := #[.int .u64 qx, .int .u64 qy]) (t := 37) (by simp) 1 rfl, hra1⟩
            clear hK K
            try simp only [Act.put, List.setIfInBounds_toArray, List.set_cons_zero, List.set_cons_succ]
            refine stepH 5 (by kernel_rfl) rfl (by rfl) (fun K hK => ?_)
            go_simp
            refine (cA.out _).mono ?_
            rintro e wa2 ⟨rfl, hba2⟩
            have hra2 := HR.next hHeld.2.2 hba2
            have hf2 := HR.next hf1 hba2
            refine hK.out _ _ ?_ (fun hHeld => ?_)
            · exact ⟨HR.cell hra2 (b := b11) (cs := #[.int .u64 qx, .int .u64 qy]) (t := 37) (by simp) 0 rfl, HR.cell hra2 (b := b11) (cs := #[.int .u64 qx, .int .u64 qy]) (t := 37) (by simp) 1 rfl, hra2⟩
            clear hK K
            try simp only [Act.put, List.setIfInBounds_toArray, List.set_cons_zero, List.set_cons_succ]
            have e0 := hf2.cell (b := b8) (cs := #[.int .u64 ox, .int .u64 oy]) (t := 37) (by simp) 0 rfl
            have e1 := hf2.cell (b := b8) (cs := #[.int .u64 ox, .int .u64 oy]) (t := 37) (by simp) 1 rfl
            have i0 := hf2.free (b := b8) (cs := #[.int .u64 ox, .int .u64 oy]) (t := 37) (by simp) 0
            have i1 := hf2.free (b := b8) (cs := #[.int .u64 ox, .int .u64 oy]) (t := 37) (by simp) 1
            have hrow8 := (hf2.row (b := b8) (cs := #[.int .u64 ox, .int .u64 oy]) (t := 37) (by simp)).set2 (v0 := .int .u64 sx) (v1 := .int .u64 sy)
            refine stepH 6 (by kernel_rfl) rfl (by rfl) (fun K hK => ?_)
            go_simp
            refine hK.out _ _ ?_ (fun hHeld => ?_)
            · exact ⟨HR.cell (HR.like (HR.other (HR.other (HR.sub (qs := [(b11, #[.int .u64 qx, .int .u64 qy], 37), (b4, #[.int .u64 0, .int .u64 0], 37)]) hf2 (by simp)) (D := b8) (o := 0) (v := .int .u64 sx) (by simp; omega) (by omega)) (D := b8) (o := 1) (v := .int .u64 sy) (by simp; omega) (by omega)) rfl rfl rfl rfl) (b := b11) (cs := #[.int .u64 qx, .int .u64 qy]) (t := 37) (by simp) 0 rfl, HR.cell (HR.like (HR.other (HR.other (HR.sub (qs := [(b11, #[.int .u64 qx, .int .u64 qy], 37), (b4, #[.int .u64 0, .int .u64 0], 37)]) hf2 (by simp)) (D := b8) (o := 0) (v := .int .u64 sx) (by simp; omega) (by omega)) (D := b8) (o := 1) (v := .int .u64 sy) (by simp; omega) (by omega)) rfl rfl rfl rfl) (b := b11) (cs := #[.int .u64 qx, .int .u64 qy]) (t := 37) (by simp) 1 rfl, (HR.like (HR.other (HR.other (HR.sub (qs := [(b11, #[.int .u64 qx, .int .u64 qy], 37), (b4, #[.int .u64 0, .int .u64 0], 37)]) hf2 (by simp)) (D := b8) (o := 0) (v := .int .u64 sx) (by simp; omega) (by omega)) (D := b8) (o := 1) (v := .int .u64 sy) (by simp; omega) (by omega)) rfl rfl rfl rfl)⟩
            clear hK K
            try simp only [Act.put, List.setIfInBounds_toArray, List.set_cons_zero, List.set_cons_succ]
            refine wpAnyH_done (by kernel_rfl) (NoPanic.normal ?_) _
            have HS := Lib.hid (HR.add hHeld.2.2 hrow8)
            clear hHeld hrow8 e0 e1 i0 i1
            have HN := Lib.hid (HR.sub (qs := [(b8, #[.int .u64 sx, .int .u64 sy], 37), (b4, #[.int .u64 0, .int .u64 0], 37)]) HS.out (by simp))
            clear HS
            go_wp2_with fail
            go_roundw
            case rel => exact ⟨j + 1, _, sx, sy, by simp; omega, by omega, hCn, hvs, HN⟩
            case measure => simp [intOf]; omega
          · go_simp
            refine (cM.out _).mono ?_
            rintro e wa1 ⟨rfl, hba1⟩
            have hra1 := HR.next hHeld.2.2 hba1
            have hf1 := HR.next hf0 hba1
            refine hK.out _ _ ?_ (fun hHeld => ?_)
            · exact ⟨HR.cell hra1 (b := b11) (cs := #[.int .u64 qx, .int .u64 qy]) (t := 37) (by simp) 0 rfl, HR.cell hra1 (b := b11) (cs := #[.int .u64 qx, .int .u64 qy]) (t := 37) (by simp) 1 rfl, hra1⟩
            clear hK K
            try simp only [Act.put, List.setIfInBounds_toArray, List.set_cons_zero, List.set_cons_succ]
            refine stepH 0 (by kernel_rfl) rfl (by rfl) (fun K hK => ?_)
            have e0 := hf1.cell (b := b8) (cs := #[.int .u64 ox, .int .u64 oy]) (t := 37) (by simp) 0 rfl
            have e1 := hf1.cell (b := b8) (cs := #[.int .u64 ox, .int .u64 oy]) (t := 37) (by simp) 1 rfl
            go_simp
            refine hK.out _ _ ?_ (fun hHeld => ?_)
            · exact hHeld
            clear e0 e1
            clear hK K
            try simp only [Act.put, List.setIfInBounds_toArray, List.set_cons_zero, List.set_cons_succ]
            refine stepH 5 (by kernel_rfl) rfl (by rfl) (fun K hK => ?_)
            go_simp
            refine (cA.out _).mono ?_
            rintro e wa2 ⟨rfl, hba2⟩
            have hra2 := HR.next hHeld.2.2 hba2
            have hf2 := HR.next hf1 hba2
            refine hK.out _ _ ?_ (fun hHeld => ?_)
            · exact ⟨HR.cell hra2 (b := b11) (cs := #[.int .u64 qx, .int .u64 qy]) (t := 37) (by simp) 0 rfl, HR.cell hra2 (b := b11) (cs := #[.int .u64 qx, .int .u64 qy]) (t := 37) (by simp) 1 rfl, hra2⟩
            clear hK K
            try simp only [Act.put, List.setIfInBounds_toArray, List.set_cons_zero, List.set_cons_succ]
            have e0 := hf2.cell (b := b8) (cs := #[.int .u64 ox, .int .u64 oy]) (t := 37) (by simp) 0 rfl
            have e1 := hf2.cell (b := b8) (cs := #[.int .u64 ox, .int .u64 oy]) (t := 37) (by simp) 1 rfl
            have i0 := hf2.free (b := b8) (cs := #[.int .u64 ox, .int .u64 oy]) (t := 37) (by simp) 0
            have i1 := hf2.free (b := b8) (cs := #[.int .u64 ox, .int .u64 oy]) (t := 37) (by simp) 1
            have hrow8 := (hf2.row (b := b8) (cs := #[.int .u64 ox, .int .u64 oy]) (t := 37) (by simp)).set2 (v0 := .int .u64 sx) (v1 := .int .u64 sy)
            refine stepH 6 (by kernel_rfl) rfl (by rfl) (fun K hK => ?_)
            go_simp
            refine hK.out _ _ ?_ (fun hHeld => ?_)
            · exact ⟨HR.cell (HR.like (HR.other (HR.other (HR.sub (qs := [(b11, #[.int .u64 qx, .int .u64 qy], 37), (b4, #[.int .u64 0, .int .u64 0], 37)]) hf2 (by simp)) (D := b8) (o := 0) (v := .int .u64 sx) (by simp; omega) (by omega)) (D := b8) (o := 1) (v := .int .u64 sy) (by simp; omega) (by omega)) rfl rfl rfl rfl) (b := b11) (cs := #[.int .u64 qx, .int .u64 qy]) (t := 37) (by simp) 0 rfl, HR.cell (HR.like (HR.other (HR.other (HR.sub (qs := [(b11, #[.int .u64 qx, .int .u64 qy], 37), (b4, #[.int .u64 0, .int .u64 0], 37)]) hf2 (by simp)) (D := b8) (o := 0) (v := .int .u64 sx) (by simp; omega) (by omega)) (D := b8) (o := 1) (v := .int .u64 sy) (by simp; omega) (by omega)) rfl rfl rfl rfl) (b := b11) (cs := #[.int .u64 qx, .int .u64 qy]) (t := 37) (by simp) 1 rfl, (HR.like (HR.other (HR.other (HR.sub (qs := [(b11, #[.int .u64 qx, .int .u64 qy], 37), (b4, #[.int .u64 0, .int .u64 0], 37)]) hf2 (by simp)) (D := b8) (o := 0) (v := .int .u64 sx) (by simp; omega) (by omega)) (D := b8) (o := 1) (v := .int .u64 sy) (by simp; omega) (by omega)) rfl rfl rfl rfl)⟩
            clear hK K
            try simp only [Act.put, List.setIfInBounds_toArray, List.set_cons_zero, List.set_cons_succ]
            refine wpAnyH_done (by kernel_rfl) (NoPanic.normal ?_) _
            have HS := Lib.hid (HR.add hHeld.2.2 hrow8)
            clear hHeld hrow8 e0 e1 i0 i1
            have HN := Lib.hid (HR.sub (qs := [(b8, #[.int .u64 sx, .int .u64 sy], 37), (b4, #[.int .u64 0, .int .u64 0], 37)]) HS.out (by simp))
            clear HS
            go_wp2_with fail
            go_roundw
            case rel => exact ⟨j + 1, _, sx, sy, by simp; omega, by omega, hCn, hvs, HN⟩
            case measure => simp [intOf]; omega
      · obtain rfl : j = len := by omega
        have i1 : ¬ i < (j : Int) := by omega
        have hRs : Hid (R = some o) := Lib.hid (by rw [← hR.out]; exact hC.out)
        have c_b8_0 := H.out.cell (b := b8) (cs := #[.int .u64 ox, .int .u64 oy]) (t := 37) (by simp) 0 rfl
        have c_b8_1 := H.out.cell (b := b8) (cs := #[.int .u64 ox, .int .u64 oy]) (t := 37) (by simp) 1 rfl
        have c_b4_0 := H.out.cell (b := b4) (cs := #[.int .u64 0, .int .u64 0]) (t := 37) (by simp) 0 rfl
        have c_b4_1 := H.out.cell (b := b4) (cs := #[.int .u64 0, .int .u64 0]) (t := 37) (by simp) 1 rfl
        have f_b4_0 := H.out.free (b := b4) (cs := #[.int .u64 0, .int .u64 0]) (t := 37) (by simp) 0
        have f_b4_1 := H.out.free (b := b4) (cs := #[.int .u64 0, .int .u64 0]) (t := 37) (by simp) 1
        have HF := Lib.hid (HR.other (HR.other (HR.sub (qs := []) H.out (by simp)) (D := b4) (o := 0) (v := .int .u64 ox) (by simp) (by omega)) (D := b4) (o := 1) (v := .int .u64 oy) (by simp) (by omega))
        go_wp2_with fail
        refine bodyPost_ret (v := .tuple #[edV ox oy, .nilIface]) (by simp [results, Tryd.results36, go_sem, c_b4_0, c_b4_1]) rfl ⟨by rw [hRs.out]; show _ = Ending.returned (.tuple #[ptV o, .nilIface]); rw [hvo.out], by subst hb4; exact HF.out.2⟩

end Go.Proofs.YtiffendfojhapaaDoor
