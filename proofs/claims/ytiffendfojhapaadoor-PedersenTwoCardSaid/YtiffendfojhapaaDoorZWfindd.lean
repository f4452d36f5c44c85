import Derived.Test.YtiffendfojhapaaDoorMB
import Derived.Test.YtiffendfojhapaaDoorZWnum
import Derived.Test.YtiffendfojhapaaDoorMC
import Derived.Test.YtiffendfojhapaaDoorZLstays5
set_option linter.unusedVariables false
set_option linter.unusedSimpArgs false
/- Walks: package edwards: a found point, told as a function. -/
namespace Go.Proofs.YtiffendfojhapaaDoor
open Go.RowKit

/-- The candidate's Y. -/
noncomputable def candN (T : List Nat) (n j : Nat) : Nat := Obol.numL (Obol.sumL T (Obol.be8 n ++ Obol.be8 j)) % 288230376287764481
noncomputable def tryN (T : List Nat) (n j : Nat) : Option Obol.Pt :=
  if Obol.sqB (sqY (candN T n j)) = true then
    (if (Obol.Pnt.smul 4 (Obol.Pnt.of (Obol.rootN (sqY (candN T n j)), candN T n j))).n = Obol.zeroN then none else some (Obol.Pnt.smul 4 (Obol.Pnt.of (Obol.rootN (sqY (candN T n j)), candN T n j)))) else none
noncomputable def findR (T : List Nat) (n : Nat) : Nat → Nat → Option Obol.Pt
  | 0, _ => none
  | f + 1, j => match tryN T n j with
    | some q => some q
    | none => findR T n f (j + 1)
noncomputable def findV : Option Obol.Pt → Value
  | some q => .tuple #[ptV q, .nilIface]
  | none => .tuple #[edV 0 0, errV 2]
theorem n_zero {q : Obol.Pt} : q.n = Obol.zeroN ↔ q = Obol.Pnt.zero := ⟨fun h => Obol.Pnt.n_inj (h.trans Obol.zero_n.symm), fun h => by rw [h, Obol.zero_n]⟩
theorem try_no {T : List Nat} {n j y : Nat} (hy : candN T n j = y) (hs : Obol.sqB (sqY y) = false) : tryN T n j = none := by
  unfold tryN
  rw [hy, hs]
  rfl
theorem try_q {T : List Nat} {n j y x : Nat} {q : Obol.Pt} (hy : candN T n j = y) (hs : Obol.sqB (sqY y) = true) (hx : Obol.rootN (sqY y) = x) (hq : Obol.Pnt.smul 4 (Obol.Pnt.of (x, y)) = q) : (q = Obol.Pnt.zero → tryN T n j = none) ∧ (q ≠ Obol.Pnt.zero → tryN T n j = some q) := by
  unfold tryN
  rw [hy, hx, hq, if_pos hs]
  refine ⟨fun h => if_pos (n_zero.2 h), fun h => if_neg (fun h2 => h (n_zero.1 h2))⟩
theorem find_skip {T : List Nat} {n : Nat} {j : Int} {F : Option Obol.Pt} (j0 : 0 ≤ j) (hj : j < 128) (h : tryN T n j.toNat = none) (hf : findR T n (128 - j.toNat) j.toNat = F) : findR T n (128 - (j + 1).toNat) (j + 1).toNat = F := by
  rw [show 128 - j.toNat = (128 - (j + 1).toNat) + 1 by omega, findR, h] at hf
  rw [show (j + 1).toNat = j.toNat + 1 by omega] at hf ⊢
  exact hf
theorem find_hit {T : List Nat} {n : Nat} {j : Int} {F : Option Obol.Pt} {q : Obol.Pt} (j0 : 0 ≤ j) (hj : j < 128) (h : tryN T n j.toNat = some q) (hf : findR T n (128 - j.toNat) j.toNat = F) : F = some q := by
  rw [show 128 - j.toNat = (128 - (j + 1).toNat) + 1 by omega, findR, h] at hf
  exact hf.symm
theorem try_S {T : List Nat} {n j : Nat} {q : Obol.Pt} (h : tryN T n j = some q) : q ≠ Obol.Pnt.zero ∧ Obol.Pnt.smul 72057593894066549 q = Obol.Pnt.zero := by
  unfold tryN at h
  split at h
  · split at h
    · cases h
    · rename_i h2
      obtain rfl := Option.some.inj h
      exact ⟨fun h3 => h2 (n_zero.2 h3), killed4 _⟩
  · cases h
theorem find_S {T : List Nat} {n : Nat} {q : Obol.Pt} : ∀ f j, findR T n f j = some q → q ≠ Obol.Pnt.zero ∧ Obol.Pnt.smul 72057593894066549 q = Obol.Pnt.zero
  | 0, _, h => by cases h
  | f + 1, j, h => by
    rw [findR] at h
    cases ht : tryN T n j with
    | some p => rw [ht] at h; exact try_S (ht.trans h)
    | none => rw [ht] at h; exact find_S f (j + 1) h
theorem errNeD (W : World) (a : Int) : (binOp .neq 25 (.iface 28 (.int .i64 a)) .nilIface).run Tryd.prog W = .ok (.bool true) W := by
  simp [go_sem]

set_option maxRecDepth 100000 in
set_option maxHeartbeats 2000000 in
theorem eFindD (s : ByteArray) (hs : s.size ≤ 8) (k : Int) (k0 : 0 ≤ k) (k1 : k ≤ 18446744073709551615) (w : World) (hG : RowsAt w) :
    Calls Tryd.prog 61 #[.string s, .int .u64 k] w fun e w' => e = .returned (findV (findR (strL s) k.toNat 128 0)) ∧ Below w.heap.size w w' := by
  have hsi : (s.size : Int) ≤ 8 := by omega
  obtain ⟨F, hF0⟩ : ∃ F, findR (strL s) k.toNat 128 0 = F := ⟨_, rfl⟩
  rw [hF0]
  have HF0 := Lib.hid hF0
  clear hF0
  have hG' := Lib.hid hG
  have cN := fun (L : List Nat) (g cap : Nat) (H : B8 16 L) (W : World) (hS : SlI W.heap.size W (some ⟨g, 0, none⟩) cap L) (hg : RowsAt W) => bNumber s hs (some ⟨g, 0, none⟩) 16 cap L H 288230376287764481 (by omega) (by omega) W hS hg
  replace cN := Lib.hid cN
  have hN := errNeD
  clear hG hs
  go_enter Tryd.func61, Tryd.ntmps61
  go_wp2_with fail
  have R0 := Lib.hid (Row.new w #[.int .u64 0, .int .u64 0] 37)
  have B0 := Lib.hid (bAlloc (Below.refl w.heap.size w) (.cells #[.int .u64 0, .int .u64 0] 37))
  generalize w.alloc (.cells #[.int .u64 0, .int .u64 0] 37) = w1 at R0 B0 ⊢
  go_loopw [16] (fun q wr => ∃ j : Int, q = .int .u64 j ∧ 0 ≤ j ∧ j ≤ 128 ∧ Hid (findR (strL s) k.toNat (128 - j.toNat) j.toNat = F) ∧ Hid (Row wr w.heap.size #[.int .u64 0, .int .u64 0] 37) ∧ Hid (Below w.heap.size w wr)) (fun q _ => (128 - intOf q).toNat)
  case atStart => exact ⟨0, rfl, by omega, by omega, HF0, R0, B0⟩
  case round =>
    clear R0 B0 HF0
    obtain ⟨j, rfl, j0, j1, HF, R, B⟩ := hrel
    by_cases hj : j < 128
    · go_wp2_with fail
      refine (ePut wr.heap.size (.slice none 0 0) [] k k0 k1 (by decide) wr (Nat.le_refl _) (OwnB.nil _ _)).mono ?_
      rintro e w2 ⟨v1, rfl, hO1, hb2⟩
      have zR := R.out.lt
      replace R := Lib.hid (R.out.below hb2 zR)
      replace B := Lib.hid (B.out.trans (hb2.mono B.out.size))
      have z2 := hb2.size
      replace hO1 := Lib.hid hO1
      clear hb2
      go_wp2_with fail
      refine (ePut wr.heap.size v1 _ j j0 (by omega) (by simp [Obol.be8]) w2 z2 hO1.out).mono ?_
      rintro e w3 ⟨v2, rfl, hO2, hb3⟩
      replace R := Lib.hid (R.out.below hb3 zR)
      replace B := Lib.hid (B.out.trans (hb3.mono (by have := B.out.size; omega)))
      have hL : (([] ++ Obol.be8 k.toNat) ++ Obol.be8 j.toNat).length = 16 := rfl
      have hB8 : B8 16 (([] ++ Obol.be8 k.toNat) ++ Obol.be8 j.toNat) := ⟨hL, (B8.of (fun x hx => by
        rcases List.mem_append.1 hx with h | h
        · rw [List.nil_append] at h; exact Obol.be_lt _ x h
        · exact Obol.be_lt _ x h)).lt⟩
      obtain ⟨g, cap, cur, rfl, -, -, -, -, -, -⟩ := hO2.size (by rw [hL]; decide)
      rw [hL] at hO2 ⊢
      have hS := Lib.hid (own_sl hO2 hL)
      clear hb3 hO2 hO1 hL
      have hL16 : Obol.be8 k.toNat ++ Obol.be8 j.toNat = ([] ++ Obol.be8 k.toNat) ++ Obol.be8 j.toNat := rfl
      generalize ([] ++ Obol.be8 k.toNat) ++ Obol.be8 j.toNat = L16 at hB8 hS hL16
      replace hL16 := Lib.hid hL16
      go_wp2_with fail
      refine (cN.out L16 g cap hB8 w3 hS.out (hG'.out.below B.out)).mono ?_
      rintro e w4 ⟨rfl, hb4⟩
      obtain ⟨y, hy⟩ : ∃ y : Int, ((Obol.numL (Obol.sumL (strL s) L16) : Nat) : Int) % 288230376287764481 = y := ⟨_, rfl⟩
      have y0 : 0 ≤ y := by omega
      have y1 : y ≤ 18446744073709551615 := by omega
      have hyc := Lib.hid (show candN (strL s) k.toNat j.toNat = y.toNat by unfold candN; rw [hL16.out]; omega)
      rw [hy]
      replace R := Lib.hid (R.out.below hb4 R.out.lt)
      replace B := Lib.hid (bThen B.out hb4 B.out.size)
      clear hb4 hS hB8 hy
      have hSide := fun w => eSide y y0 w
      cases hs : Obol.sqB (sqY y.toNat)
      · have HN := Lib.hid (find_skip j0 hj (try_no hyc.out hs) HF.out)
        rw [rootV_no hs] at hSide
        replace hSide := Lib.hid hSide
        clear hs
        go_wp2_with fail
        refine (hSide.out _).mono ?_
        rintro e w5 ⟨rfl, n, rfl⟩
        go_wp2_with fail
        go_roundw
        case rel => exact ⟨_, rfl, by omega, by omega, HN, Lib.hid (R.out.drewN n), Lib.hid (bDrewN B.out n)⟩
        case measure => simp [intOf]; omega
      · rw [rootV_yes hs] at hSide
        obtain ⟨x, hx⟩ : ∃ x : Int, ((Obol.rootN (sqY y.toNat) : Nat) : Int) = x := ⟨_, rfl⟩
        have x0 : 0 ≤ x := by omega
        rw [hx] at hSide
        replace hSide := Lib.hid hSide
        have cM := fun w => gMul x y 4 x0 y0 (by omega) (by omega) w
        obtain ⟨q, hq⟩ : ∃ q, Obol.Pnt.smul (4 : Int).toNat (Obol.Pnt.of (x.toNat, y.toNat)) = q := ⟨_, rfl⟩
        have HT := Lib.hid (try_q (q := q) hyc.out hs (by omega : Obol.rootN (sqY y.toNat) = x.toNat) hq)
        have hk := killed4 (Obol.Pnt.of (x.toNat, y.toNat))
        rw [show Obol.Pnt.smul 4 (Obol.Pnt.of (x.toNat, y.toNat)) = q from hq] at hk
        rw [hq] at cM
        obtain ⟨qx, qy, qx0, qy0, -, -, hqv, hqo⟩ := coords q
        rw [hqv] at cM
        have hz := zero_of hqv
        replace cM := Lib.hid cM
        have hqv' := Lib.hid hqv
        have hk' := Lib.hid hk
        clear hs hx hq hk hqo hqv
        go_wp2_with fail
        refine (hSide.out _).mono ?_
        rintro e w5 ⟨rfl, n, rfl⟩
        go_wp2_with fail
        refine (cM.out _).mono ?_
        rintro e w6 ⟨rfl, hb6⟩
        replace R := Lib.hid ((R.out.drewN n).below hb6 (R.out.drewN n).lt)
        replace B := Lib.hid (bThen (bDrewN B.out n) hb6 (bDrewN B.out n).size)
        have zR := R.out.lt
        clear hb6
        go_wp2_with fail
        have RP := Lib.hid (Row.new w6 #[.int .u64 qx, .int .u64 qy] 37)
        replace R := Lib.hid (R.out.alloc (.cells #[.int .u64 qx, .int .u64 qy] 37))
        replace B := Lib.hid (bAlloc B.out (.cells #[.int .u64 qx, .int .u64 qy] 37))
        generalize w6.alloc (.cells #[.int .u64 qx, .int .u64 qy] 37) = w7 at RP R B ⊢
        generalize w6.heap.size = pb at RP zR ⊢
        by_cases hx0 : qx = 0
        · by_cases hy1 : qy = 1
          · subst hx0 hy1
            have HN := Lib.hid (find_skip j0 hj (HT.out.1 (hz.2 ⟨rfl, rfl⟩)) HF.out)
            clear hz
            refine wp_region_noPanic ?_
            refine wp_region_held_drew (S := fun w' => w'.cell? ⟨pb, 0, none⟩ = some (.int .u64 0) ∧ w'.cell? ⟨pb, 1, none⟩ = some (.int .u64 1) ∧ Row w' pb #[.int .u64 0, .int .u64 1] 37 ∧ Row w' w.heap.size #[.int .u64 0, .int .u64 0] 37 ∧ Below w.heap.size w w') (by kernel_rfl) ?_ (fun hHeld => ?_)
            · exact ⟨RP.out.drew.cell 0 rfl, RP.out.drew.cell 1 rfl, RP.out.drew, R.out.drew, bDrew B.out⟩
            refine takeH 0 (fun _ _ _ _ _ h => h) (by kernel_rfl) hHeld rfl (by kernel_rfl) (by rfl) (v := ?_) ?_ ?_
            rotate_left
            ((intro wz hz; (try dsimp only at hz); go_simp) <;> with_reducible rfl)
            try simp only [Act.put, List.setIfInBounds_toArray, List.set_cons_zero, List.set_cons_succ]
            refine stepH 1 (by kernel_rfl) rfl (by rfl) (fun K hK => ?_)
            go_simp
            refine (eZero _).mono ?_
            rintro e w8 ⟨rfl, hb8⟩
            have RP8 := hHeld.2.2.1.below hb8 hHeld.2.2.1.lt
            refine hK.out _ _ ?_ (fun hHeld => ?_)
            · exact ⟨RP8.cell 0 rfl, RP8.cell 1 rfl, RP8, hHeld.2.2.2.1.below hb8 hHeld.2.2.2.1.lt, bThen hHeld.2.2.2.2 hb8 hHeld.2.2.2.2.size⟩
            clear hK K
            try simp only [Act.put, List.setIfInBounds_toArray, List.set_cons_zero, List.set_cons_succ]
            refine takeH 2 (fun _ _ _ _ _ h => h) (by kernel_rfl) hHeld rfl (by kernel_rfl) (by rfl) (v := ?_) ?_ ?_
            rotate_left
            ((intro wz hz; (try dsimp only at hz); go_simp) <;> with_reducible rfl)
            try simp only [Act.put, List.setIfInBounds_toArray, List.set_cons_zero, List.set_cons_succ]
            refine wpAnyH_done (by kernel_rfl) (NoPanic.normal ?_) _
            go_wp2
            go_roundw
            case rel => exact ⟨_, rfl, by omega, by omega, HN, Lib.hid hHeld.2.2.2.1, Lib.hid hHeld.2.2.2.2⟩
            case measure => simp [intOf]; omega
          · have hqz : q ≠ Obol.Pnt.zero := fun h => hy1 (hz.1 h).2
            have hyb : (qy == 1) = false := beq_eq_false_iff_ne.2 hy1
            have HQ := Lib.hid (find_hit j0 hj (HT.out.2 hqz) HF.out)
            replace hqz := Lib.hid hqz
            replace hy1 := Lib.hid hy1
            subst hx0
            clear hz
            refine wp_region_noPanic ?_
            refine wp_region_held_drew (S := fun w' => w'.cell? ⟨pb, 0, none⟩ = some (.int .u64 0) ∧ w'.cell? ⟨pb, 1, none⟩ = some (.int .u64 qy) ∧ Row w' pb #[.int .u64 0, .int .u64 qy] 37 ∧ Row w' w.heap.size #[.int .u64 0, .int .u64 0] 37 ∧ Below w.heap.size w w') (by kernel_rfl) ?_ (fun hHeld => ?_)
            · exact ⟨RP.out.drew.cell 0 rfl, RP.out.drew.cell 1 rfl, RP.out.drew, R.out.drew, bDrew B.out⟩
            refine takeH 0 (fun _ _ _ _ _ h => h) (by kernel_rfl) hHeld rfl (by kernel_rfl) (by rfl) (v := ?_) ?_ ?_
            rotate_left
            ((intro wz hz; (try dsimp only at hz); go_simp) <;> with_reducible rfl)
            try simp only [Act.put, List.setIfInBounds_toArray, List.set_cons_zero, List.set_cons_succ]
            refine stepH 1 (by kernel_rfl) rfl (by rfl) (fun K hK => ?_)
            go_simp
            refine (eZero _).mono ?_
            rintro e w8 ⟨rfl, hb8⟩
            have RP8 := hHeld.2.2.1.below hb8 hHeld.2.2.1.lt
            refine hK.out _ _ ?_ (fun hHeld => ?_)
            · exact ⟨RP8.cell 0 rfl, RP8.cell 1 rfl, RP8, hHeld.2.2.2.1.below hb8 hHeld.2.2.2.1.lt, bThen hHeld.2.2.2.2 hb8 hHeld.2.2.2.2.size⟩
            clear hK K
            try simp only [Act.put, List.setIfInBounds_toArray, List.set_cons_zero, List.set_cons_succ]
            refine takeH 2 (fun _ _ _ _ _ h => h) (by kernel_rfl) hHeld rfl (by kernel_rfl) (by rfl) (v := ?_) ?_ ?_
            rotate_left
            ((intro wz hz; (try dsimp only at hz); go_simp) <;> with_reducible rfl)
            try simp only [Act.put, List.setIfInBounds_toArray, List.set_cons_zero, List.set_cons_succ]
            refine wpAnyH_done (by kernel_rfl) (NoPanic.normal ?_) _
            obtain ⟨-, -, hP8, hR8, hB8⟩ := hHeld
            have gp0 := hP8.cell 0 rfl
            have gp1 := hP8.cell 1 rfl
            have gr0 := hR8.cell 0 rfl
            have gr1 := hR8.cell 1 rfl
            have fr0 := hR8.free 0
            have fr1 := hR8.free 1
            have RN := Lib.hid (hR8.set2 (v0 := .int .u64 0) (v1 := .int .u64 qy))
            have BN := Lib.hid (bSet (b := w.heap.size) (o := 1) (u := .int .u64 qy) (bSet (b := w.heap.size) (o := 0) (u := .int .u64 0) hB8 (Nat.le_refl _)) (Nat.le_refl _))
            clear hP8 hR8 hB8
            go_wp2
            refine bodyPost_ret (v := .tuple #[edV 0 qy, .nilIface]) (by simp [results, Tryd.results61, go_sem, gr0, gr1]) rfl ⟨by rw [HQ.out]; show _ = Ending.returned (.tuple #[ptV q, .nilIface]); rw [hqv'.out], BN.out⟩
        · have hqz : q ≠ Obol.Pnt.zero := fun h => hx0 (hz.1 h).1
          have hxb : (qx == 0) = false := beq_eq_false_iff_ne.2 hx0
          have HQ := Lib.hid (find_hit j0 hj (HT.out.2 hqz) HF.out)
          replace hqz := Lib.hid hqz
          replace hx0 := Lib.hid hx0
          clear hz
          refine wp_region_noPanic ?_
          refine wp_region_held_drew (S := fun w' => w'.cell? ⟨pb, 0, none⟩ = some (.int .u64 qx) ∧ w'.cell? ⟨pb, 1, none⟩ = some (.int .u64 qy) ∧ Row w' pb #[.int .u64 qx, .int .u64 qy] 37 ∧ Row w' w.heap.size #[.int .u64 0, .int .u64 0] 37 ∧ Below w.heap.size w w') (by kernel_rfl) ?_ (fun hHeld => ?_)
          · exact ⟨RP.out.drew.cell 0 rfl, RP.out.drew.cell 1 rfl, RP.out.drew, R.out.drew, bDrew B.out⟩
          refine takeH 0 (fun _ _ _ _ _ h => h) (by kernel_rfl) hHeld rfl (by kernel_rfl) (by rfl) (v := ?_) ?_ ?_
          rotate_left
          ((intro wz hz; (try dsimp only at hz); go_simp) <;> with_reducible rfl)
          try simp only [Act.put, List.setIfInBounds_toArray, List.set_cons_zero, List.set_cons_succ]
          refine stepH 1 (by kernel_rfl) rfl (by rfl) (fun K hK => ?_)
          go_simp
          refine (eZero _).mono ?_
          rintro e w8 ⟨rfl, hb8⟩
          have RP8 := hHeld.2.2.1.below hb8 hHeld.2.2.1.lt
          refine hK.out _ _ ?_ (fun hHeld => ?_)
          · exact ⟨RP8.cell 0 rfl, RP8.cell 1 rfl, RP8, hHeld.2.2.2.1.below hb8 hHeld.2.2.2.1.lt, bThen hHeld.2.2.2.2 hb8 hHeld.2.2.2.2.size⟩
          clear hK K
          try simp only [Act.put, List.setIfInBounds_toArray, List.set_cons_zero, List.set_cons_succ]
          refine takeH 2 (fun _ _ _ _ _ h => h) (by kernel_rfl) hHeld rfl (by kernel_rfl) (by rfl) (v := ?_) ?_ ?_
          rotate_left
          ((intro wz hz; (try dsimp only at hz); go_simp) <;> with_reducible rfl)
          try simp only [Act.put, List.setIfInBounds_toArray, List.set_cons_zero, List.set_cons_succ]
          refine wpAnyH_done (by kernel_rfl) (NoPanic.normal ?_) _
          obtain ⟨-, -, hP8, hR8, hB8⟩ := hHeld
          have gp0 := hP8.cell 0 rfl
          have gp1 := hP8.cell 1 rfl
          have gr0 := hR8.cell 0 rfl
          have gr1 := hR8.cell 1 rfl
          have fr0 := hR8.free 0
          have fr1 := hR8.free 1
          have RN := Lib.hid (hR8.set2 (v0 := .int .u64 qx) (v1 := .int .u64 qy))
          have BN := Lib.hid (bSet (b := w.heap.size) (o := 1) (u := .int .u64 qy) (bSet (b := w.heap.size) (o := 0) (u := .int .u64 qx) hB8 (Nat.le_refl _)) (Nat.le_refl _))
          clear hP8 hR8 hB8
          go_wp2
          refine bodyPost_ret (v := .tuple #[edV qx qy, .nilIface]) (by simp [results, Tryd.results61, go_sem, gr0, gr1]) rfl ⟨by rw [HQ.out]; show _ = Ending.returned (.tuple #[ptV q, .nilIface]); rw [hqv'.out], BN.out⟩
    · obtain rfl : j = 128 := by omega
      have HQ : Hid (F = none) := Lib.hid HF.out.symm
      have gr0 := R.out.cell 0 rfl
      have gr1 := R.out.cell 1 rfl
      have fr0 := R.out.free 0
      have fr1 := R.out.free 1
      have BN := Lib.hid (bSet (b := w.heap.size) (o := 1) (u := .int .u64 0) (bSet (b := w.heap.size) (o := 0) (u := .int .u64 0) B.out (Nat.le_refl _)) (Nat.le_refl _))
      go_wp2_with fail
      refine bodyPost_ret (v := .tuple #[edV 0 0, errV 2]) (by simp [results, Tryd.results61, go_sem, gr0, gr1]) rfl ⟨by rw [HQ.out]; rfl, BN.out⟩

end Go.Proofs.YtiffendfojhapaaDoor
