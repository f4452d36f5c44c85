import Derived.Test.YtcdfpceagobicaaWstr
import Derived.Test.YtcdfpceagobicaaWstay
import Derived.Deep.CutBlock
import Derived.Deep.DeepCutAuto
/- The walk of the law EdwardsStays. -/
namespace Go.Proofs.Ytcdfpceagobicaa
open Go.RowKit

noncomputable def readAny (len : Nat) (L : List Nat) : Value := if len = 8 then readV (Obol.num8 L) else .tuple #[edV 0 0, errV 3]
theorem readAny_shape (len : Nat) (L : List Nat) : ∃ (P Q : Int) (E : Value), readAny len L = .tuple #[edV P Q, E] ∧ (E = .nilIface ∨ E = errV 3) := by
  unfold readAny
  split
  · unfold readV
    split
    · exact ⟨_, _, _, rfl, Or.inl rfl⟩
    · exact ⟨_, _, _, rfl, Or.inr rfl⟩
  · exact ⟨_, _, _, rfl, Or.inr rfl⟩
theorem eReadAny (ao : Option Addr) (len cap : Nat) (L : List Nat) (H : B8 len L) (hl : len ≤ 9223372036854775807) (w : World) (hb : 0 < len → ∃ b o, ao = some ⟨b, o, none⟩ ∧ BL w b o L) :
    Calls Try.prog 7 #[.slice ao len cap] w fun e w' => e = .returned (readAny len L) ∧ Below w.heap.size w w' := by
  unfold readAny
  by_cases h8 : len = 8
  · subst h8
    obtain ⟨b, o, rfl, h⟩ := hb (by omega)
    rw [if_pos rfl]
    exact eRead8 b o cap L H w h
  · rw [if_neg h8]
    exact eReadNo ao len cap h8 hl w

/-- What the last region holds on to. -/
abbrev SS (w w1 : World) (a k m : Nat) (X Y P Q : Int) (T : World → Prop) : Prop :=
  w1.cell? ⟨a, 0, none⟩ = some (.int .u64 X) ∧ w1.cell? ⟨a, 1, none⟩ = some (.int .u64 Y) ∧ w1.cell? ⟨k, 0, none⟩ = some (.int .u64 P) ∧ w1.cell? ⟨k, 1, none⟩ = some (.int .u64 Q) ∧
    w1.cell? ⟨m, 0, none⟩ = some (.int .u64 P) ∧ w1.cell? ⟨m, 1, none⟩ = some (.int .u64 Q) ∧ T w1 ∧
    Row w1 a #[.int .u64 X, .int .u64 Y] 26 ∧ Row w1 k #[.int .u64 P, .int .u64 Q] 26 ∧ Row w1 m #[.int .u64 P, .int .u64 Q] 26 ∧ Below w.heap.size w w1
theorem ss {w w1 : World} {a k m : Nat} {X Y P Q : Int} {T : World → Prop} (hT : T w1) (ha : Row w1 a #[.int .u64 X, .int .u64 Y] 26) (hk : Row w1 k #[.int .u64 P, .int .u64 Q] 26) (hm : Row w1 m #[.int .u64 P, .int .u64 Q] 26) (hb : Below w.heap.size w w1) :
    SS w w1 a k m X Y P Q T := ⟨ha.cell 0 rfl, ha.cell 1 rfl, hk.cell 0 rfl, hk.cell 1 rfl, hm.cell 0 rfl, hm.cell 1 rfl, hT, ha, hk, hm, hb⟩
theorem ss_next {w w1 w2 : World} {a k m : Nat} {X Y P Q : Int} {T : World → Prop} (h : SS w w1 a k m X Y P Q T) (hw : Below w1.heap.size w1 w2) (hT : T w2) : SS w w2 a k m X Y P Q T := by
  obtain ⟨_, _, _, _, _, _, _, ha, hk, hm, hb⟩ := h
  exact ss hT (ha.below hw ha.lt) (hk.below hw hk.lt) (hm.below hw hm.lt) (bThen hb hw hb.size)
theorem errEqNil (W : World) (a : Int) : (binOp .eql 28 (.iface 31 (.int .i64 a)) .nilIface).run Try.prog W = .ok (.bool false) W := by
  first | rfl | simp [binOp]
theorem errNe (W : World) (a : Int) : (binOp .neq 28 (.iface 31 (.int .i64 a)) .nilIface).run Try.prog W = .ok (.bool true) W := by
  first | rfl | simp [binOp]

set_option maxRecDepth 4000 in
set_option maxHeartbeats 4000000 in
theorem walkStays7 (w : World) (X Y : Int) (hX : 0 ≤ X) (hY : 0 ≤ Y) (ao : Option Addr) (len cap : Nat) (L : List Nat) (H : B8 len L) (hl : len ≤ cap) (hc : cap ≤ 140737488351232) (hn : ao = none → len = 0 ∧ cap = 0) (hb : 0 < len → ∃ b o, ao = some ⟨b, o, none⟩ ∧ BL w b o L) :
    Calls Try.prog 5 #[edV X Y, .slice ao len cap] w fun e w' => e = .returned (.bool true) ∧ Below w.heap.size w w' := by
  have hlen : (len : Int) ≤ 140737488351232 := by omega
  have H' := Lib.hid H
  have hb' := Lib.hid hb
  have hn' := Lib.hid hn
  have cR := fun ao cap W hb => eReadAny ao len cap L H (by omega) W hb
  obtain ⟨RP, RQ, RE, hRV, hE⟩ := readAny_shape len L
  rw [hRV] at cR
  replace cR := Lib.hid cR
  have hEE : Hid (RE = .nilIface ∨ RE = errV 3) := Lib.hid hE
  clear hb H hn hRV hE
  obtain ⟨ti, hti, htz, hts, htb⟩ := info_parts info8
  go_enter Try.func5, Try.ntmps5
  go_wp2_with fail
  refine (up7 _).mono ?_
  rintro e w1 ⟨rfl, hb1⟩
  have RA := Lib.hid ((Row.new w #[.int .u64 X, .int .u64 Y] 26).below hb1 (by simp))
  replace hb1 : Hid (Below w.heap.size w w1) := Lib.hid (bThen (bAlloc (Below.refl w.heap.size w) _) hb1 (by simp))
  have z1 := hb1.out.size
  have zA := RA.out.lt
  go_upto_region 2 with fail
  go_cut [6] (fun v wc => ∃ g cap2, v = .slice (some ⟨g, 0, none⟩) len cap2 ∧ Hid (Cp w w1 wc g cap2 len L))
  case first =>
    cases ao with
    | none =>
      obtain ⟨rfl, rfl⟩ := hn'.out rfl
      have hL0 : L = [] := List.length_eq_zero_iff.1 H'.out.len
      have hO1 := own_empty w1 w1.heap.size (Nat.le_refl _)
      go_wp2_with (first
        | (at_builtin; refine wpList_append_own_none rfl _ _ 22 rfl w1.heap.size 5 ti 1 Try.underlying22 hti _ 0 [] rfl hO1 rfl ?_)
        | go_in)
      go_meet
      exact ⟨_, _, rfl, Lib.hid ⟨by rw [hL0]; exact hO1, bAlloc (Below.refl _ _) _⟩⟩
    | some ad =>
      have hO1 := own_empty w1 w1.heap.size (Nat.le_refl _)
      have hnews : ∀ j u, (U8 L)[j]? = some u → (w1.alloc (.cells #[] 5)).cell? (ad.add j) = some u := fun j u hu => by
        have hj : j < L.length := by
          have := (List.getElem?_eq_some_iff.1 hu).1
          simpa using this
        obtain ⟨b, o, h1, h2⟩ := hb'.out (by have := H'.out.len; omega)
        obtain rfl := Option.some.inj h1
        have h3 := (h2.below hb1.out (h2.lt (by omega))).below (B := w1.heap.size) (bAlloc (Below.refl _ _) (.cells #[] 5)) (Nat.lt_of_lt_of_le (h2.lt (by omega)) z1)
        rw [addB, h3 j hj]
        rw [List.getElem?_map, List.getElem?_eq_getElem hj] at hu
        rw [List.getD_eq_getElem?_getD, List.getElem?_eq_getElem hj]
        simpa using hu
      go_wp2_with (first
        | (at_builtin; refine wpList_append_own _ rfl _ _ 22 rfl w1.heap.size 5 ti (.int .u8 0) 1 1 Try.underlying22 hti htz hts htb rfl (by decide) _ 0 [] rfl hO1 ad len cap (U8 L) rfl (by simp [H'.out.len]) hnews (fun u hu => by obtain ⟨x, _, rfl⟩ := List.mem_map.1 hu; rfl) (by unfold maxLen; omega) (by omega) (by simp) ?_)
        | go_in)
      intro v' w2 hown' hgrow hnil
      have hv' : v' ≠ .slice none 0 0 := fun h => by first | exact hnil h | cases (hnil.1 h).1
      have hO2 : OwnB w2 w1.heap.size v' L := by
        unfold OwnB
        rw [H'.out.len]
        simpa using hown'
      obtain ⟨g, cap2, rfl⟩ := own_shape hO2 hv'
      have hb2 : Below w1.heap.size w1 w2 := (bAlloc (Below.refl w1.heap.size w1) (.cells #[] 5)).grown hgrow (by simp) (fun q hq => by simp [Value.ownBlock] at hq; omega)
      have hL2 := H'.out.len
      have CP : Hid (Cp w w1 w2 g cap2 len L) := Lib.hid ⟨by have h := hO2; rw [hL2] at h; exact h, hb2⟩
      rw [hL2]
      clear hown' hgrow hnil hO2 hb2 hv' hnews hO1 hL2
      go_wp2
      go_meet
      exact ⟨_, _, rfl, CP⟩
  case' rest =>
    rename World => w2
    obtain ⟨g, cap2, rfl, CP⟩ := hcut
  replace RA := Lib.hid (RA.out.below CP.out.bel zA)
  have hW2 := Lib.hid (hb1.out.trans (CP.out.bel.mono z1))
  have hgg := own_lt CP.out.own
  have hg1 := own_ge CP.out.own
  have hcc := own_cap CP.out.own
  go_wp2_with fail
  refine (cR.out _ _ _ (fun h => ⟨g, 0, rfl, own_blz CP.out.own H'.out.len⟩)).mono ?_
  rintro e w3 ⟨rfl, hb3⟩
  have hOw3 := CP.out.own.below hb3
  have hW3 := Lib.hid (bThen hW2.out hb3 hW2.out.size)
  replace RA := Lib.hid (RA.out.below hb3 RA.out.lt)
  have z3 := hb3.size
  clear hb3 CP hW2
  have hOw4 := Lib.hid (hOw3.below (bAlloc (Below.refl _ _) (.cells #[.int .u64 RP, .int .u64 RQ] 26)))
  have RK := Lib.hid (Row.new w3 #[.int .u64 RP, .int .u64 RQ] 26)
  replace RA := Lib.hid (RA.out.alloc (.cells #[.int .u64 RP, .int .u64 RQ] 26))
  have hW4 := Lib.hid (bAlloc hW3.out (.cells #[.int .u64 RP, .int .u64 RQ] 26))
  have k1 := conv8 (cap := cap2) (own_blz hOw4.out H'.out.len) H'.out.len
  have k2 := convAny (ao := ao) (cap := cap) (w := w3.alloc (.cells #[.int .u64 RP, .int .u64 RQ] 26)) H'.out.len (fun h => by
    obtain ⟨b, o, h1, h2⟩ := hb'.out h
    exact ⟨b, o, h1, h2.below hW4.out (h2.lt (by rw [H'.out.len]; exact h))⟩)
  clear hOw3 hW3
  go_wp2_with fail
  clear k1 k2
  generalize w3.alloc (.cells #[.int .u64 RP, .int .u64 RQ] 26) = w4 at RK RA hW4 hOw4 ⊢
  have zK : g < w3.heap.size := by omega
  generalize w3.heap.size = K at RK zK ⊢
  have hbA : w.heap.size < w1.heap.size := zA
  go_loopw [10] (fun q wr => ∃ i : Int, q = .int .i64 i ∧ Hid (LoI w1.heap.size wr g cap2 len i) ∧ Hid (Row wr w.heap.size #[.int .u64 X, .int .u64 Y] 26) ∧ Hid (Row wr K #[.int .u64 RP, .int .u64 RQ] 26) ∧ Hid (Below w.heap.size w wr)) (fun q _ => len - (intOf q).toNat)
  case atStart => exact ⟨0, rfl, Lib.hid ⟨by omega, by omega, L, H'.out.len, H'.out.lt, hOw4.out⟩, RA, RK, hW4⟩
  case round =>
    clear hOw4 RA RK hW4
    obtain ⟨i, rfl, HL, RA, RK, HB⟩ := hrel
    have i0 := HL.out.1
    have i1 := HL.out.2.1
    by_cases hi : i < len
    · obtain ⟨v, cv, fv, v0, v1, HN⟩ := HL.out.step hi
      replace HN := Lib.hid HN
      have RA2 := Lib.hid (RA.out.other (c := g) (o := i.toNat) (v := .int .u8 ((v + 1) % 256)) (by omega))
      have RK2 := Lib.hid (RK.out.other (c := g) (o := i.toNat) (v := .int .u8 ((v + 1) % 256)) (by omega))
      have HB2 := Lib.hid (bSet (b := g) (o := i.toNat) (u := .int .u8 ((v + 1) % 256)) HB.out (by omega))
      clear HL HB RA RK
      go_wp2_with fail
      go_roundw
      case rel => (first | exact ⟨_, rfl, HN, RA2, RK2, HB2⟩ | (repeat apply Exists.intro; exact ⟨⟨_, rfl, HN, RA2, RK2, HB2⟩, rfl⟩))
      case measure => (first | (simp [intOf]; omega) | (show len - (intOf (.int .i64 (i + 1))).toNat < len - (intOf (.int .i64 i)).toNat; simp [intOf]; omega))
    · obtain rfl : i = len := by omega
      clear HL
      have ga0 := RA.out.cell 0 rfl
      have ga1 := RA.out.cell 1 rfl
      cases hn : Obol.isN (X.toNat, Y.toNat)
      · have cW := Lib.hid (fun w => eWriteNo X Y hX hY hn w)
        clear hn
        go_wp2_with fail
        refine (cW.out _).mono ?_
        rintro e w5 ⟨rfl, hb5⟩
        replace RA := Lib.hid (RA.out.below hb5 RA.out.lt)
        replace RK := Lib.hid (RK.out.below hb5 RK.out.lt)
        replace HB := Lib.hid (bThen HB.out hb5 HB.out.size)
        clear hb5 ga0 ga1
        have ga0 := RA.out.cell 0 rfl
        have ga1 := RA.out.cell 1 rfl
        go_wp2_with fail
        go_loopw [13] (fun q wr => q = .int .i64 0 ∧ wr = w5) (fun q _ => 0)
        case atStart => exact ⟨rfl, rfl⟩
        case round =>
          obtain ⟨rfl, rfl⟩ := hrel
          go_wp2_with fail
          refine (cW.out _).mono ?_
          rintro e w6 ⟨rfl, hb6⟩
          replace RA := Lib.hid (RA.out.below hb6 RA.out.lt)
          replace RK := Lib.hid (RK.out.below hb6 RK.out.lt)
          replace HB := Lib.hid (bThen HB.out hb6 HB.out.size)
          clear hb6 ga0 ga1
          go_wp2_with fail
          refine (cR.out _ _ _ (fun h => by
            obtain ⟨b, o, h1, h2⟩ := hb'.out h
            exact ⟨b, o, h1, h2.below HB.out (h2.lt (by rw [H'.out.len]; exact h))⟩)).mono ?_
          rintro e w7 ⟨rfl, hb7⟩
          replace RA := Lib.hid (RA.out.below hb7 RA.out.lt)
          replace RK := Lib.hid (RK.out.below hb7 RK.out.lt)
          replace HB := Lib.hid (bThen HB.out hb7 HB.out.size)
          clear hb7
          go_wp2_with fail
          have RM := Row.new w7 #[.int .u64 RP, .int .u64 RQ] 26
          have S0 := ss (T := fun _ => True) trivial (RA.out.alloc (.cells #[.int .u64 RP, .int .u64 RQ] 26)) (RK.out.alloc (.cells #[.int .u64 RP, .int .u64 RQ] 26)) RM (bAlloc HB.out (.cells #[.int .u64 RP, .int .u64 RQ] 26))
          generalize w7.alloc (.cells #[.int .u64 RP, .int .u64 RQ] 26) = w8 at S0 ⊢
          generalize w7.heap.size = M at S0 ⊢
          have hN := errNe
          have hE0 := errEqNil
          clear RM RA RK HB
          rcases hEE.out with rfl | rfl
          all_goals
            refine wp_region_noPanic ?_
            refine wp_region_held_drew (S := fun w' => SS w w' w.heap.size K M X Y RP RQ (fun _ => True)) (by kernel_rfl) ?_ (fun hHeld => ?_)
            · exact ss_next S0 (bDrew (Below.refl _ _)) trivial
            refine takeH 0 (fun _ _ _ _ _ h => h) (by kernel_rfl) hHeld rfl (by kernel_rfl) (by rfl) (v := ?_) ?_ ?_
            rotate_left
            ((intro wz hz; (try dsimp only at hz); go_simp) <;> with_reducible rfl)
            try simp only [Act.put, List.setIfInBounds_toArray, List.set_cons_zero, List.set_cons_succ]
            refine takeH 1 (fun _ _ _ _ _ h => h) (by kernel_rfl) hHeld rfl (by kernel_rfl) (by rfl) (v := ?_) ?_ ?_
            rotate_left
            ((intro wz hz; (try dsimp only at hz); go_simp) <;> with_reducible rfl)
            try simp only [Act.put, List.setIfInBounds_toArray, List.set_cons_zero, List.set_cons_succ]
            refine takeH 2 (fun _ _ _ _ _ h => h) (by kernel_rfl) hHeld rfl (by kernel_rfl) (by rfl) (v := ?_) ?_ ?_
            rotate_left
            ((intro wz hz; (try dsimp only at hz); go_simp) <;> with_reducible rfl)
            try simp only [Act.put, List.setIfInBounds_toArray, List.set_cons_zero, List.set_cons_succ]
            refine takeH 3 (fun _ _ _ _ _ h => h) (by kernel_rfl) hHeld rfl (by kernel_rfl) (by rfl) (v := ?_) ?_ ?_
            rotate_left
            ((intro wz hz; (try dsimp only at hz); go_simp) <;> with_reducible rfl)
            try simp only [Act.put, List.setIfInBounds_toArray, List.set_cons_zero, List.set_cons_succ]
            refine takeH 4 (fun _ _ _ _ _ h => h) (by kernel_rfl) hHeld rfl (by kernel_rfl) (by rfl) (v := ?_) ?_ ?_
            rotate_left
            ((intro wz hz; (try dsimp only at hz); go_simp) <;> with_reducible rfl)
            try simp only [Act.put, List.setIfInBounds_toArray, List.set_cons_zero, List.set_cons_succ]
            refine takeH 5 (fun _ _ _ _ _ h => h) (by kernel_rfl) hHeld rfl (by kernel_rfl) (by rfl) (v := ?_) ?_ ?_
            rotate_left
            ((intro wz hz; (try dsimp only at hz); go_simp) <;> with_reducible rfl)
            try simp only [Act.put, List.setIfInBounds_toArray, List.set_cons_zero, List.set_cons_succ]
            refine takeH 6 (fun _ _ _ _ _ h => h) (by kernel_rfl) hHeld rfl (by kernel_rfl) (by rfl) (v := ?_) ?_ ?_
            rotate_left
            ((intro wz hz; (try dsimp only at hz); go_simp) <;> with_reducible rfl)
            try simp only [Act.put, List.setIfInBounds_toArray, List.set_cons_zero, List.set_cons_succ]
            refine takeH 7 (fun _ _ _ _ _ h => h) (by kernel_rfl) hHeld rfl (by kernel_rfl) (by rfl) (v := ?_) ?_ ?_
            rotate_left
            ((intro wz hz; (try dsimp only at hz); go_simp) <;> with_reducible rfl)
            try simp only [Act.put, List.setIfInBounds_toArray, List.set_cons_zero, List.set_cons_succ]
            refine takeH 8 (fun _ _ _ _ _ h => h) (by kernel_rfl) hHeld rfl (by kernel_rfl) (by rfl) (v := ?_) ?_ ?_
            rotate_left
            ((intro wz hz; (try dsimp only at hz); go_simp) <;> with_reducible rfl)
            try simp only [Act.put, List.setIfInBounds_toArray, List.set_cons_zero, List.set_cons_succ]
            refine takeH 9 (fun _ _ _ _ _ h => h) (by kernel_rfl) hHeld rfl (by kernel_rfl) (by rfl) (v := ?_) ?_ ?_
            rotate_left
            ((intro wz hz; (try dsimp only at hz); go_simp) <;> with_reducible rfl)
            try simp only [Act.put, List.setIfInBounds_toArray, List.set_cons_zero, List.set_cons_succ]
            refine takeH 10 (fun _ _ _ _ _ h => h) (by kernel_rfl) hHeld rfl (by kernel_rfl) (by rfl) (v := ?_) ?_ ?_
            rotate_left
            ((intro wz hz; (try dsimp only at hz); go_simp) <;> with_reducible rfl)
            try simp only [Act.put, List.setIfInBounds_toArray, List.set_cons_zero, List.set_cons_succ]
            refine takeH 11 (fun _ _ _ _ _ h => h) (by kernel_rfl) hHeld rfl (by kernel_rfl) (by rfl) (v := ?_) ?_ ?_
            rotate_left
            ((intro wz hz; (try dsimp only at hz); go_simp) <;> with_reducible rfl)
            try simp only [Act.put, List.setIfInBounds_toArray, List.set_cons_zero, List.set_cons_succ]
            refine takeH 12 (fun _ _ _ _ _ h => h) (by kernel_rfl) hHeld rfl (by kernel_rfl) (by rfl) (v := ?_) ?_ ?_
            rotate_left
            ((intro wz hz; (try dsimp only at hz); go_simp) <;> with_reducible rfl)
            try simp only [Act.put, List.setIfInBounds_toArray, List.set_cons_zero, List.set_cons_succ]
            refine takeH 13 (fun _ _ _ _ _ h => h) (by kernel_rfl) hHeld rfl (by kernel_rfl) (by rfl) (v := ?_) ?_ ?_
            rotate_left
            ((intro wz hz; (try dsimp only at hz); go_simp) <;> with_reducible rfl)
            try simp only [Act.put, List.setIfInBounds_toArray, List.set_cons_zero, List.set_cons_succ]
            refine takeH 14 (fun _ _ _ _ _ h => h) (by kernel_rfl) hHeld rfl (by kernel_rfl) (by rfl) (v := ?_) ?_ ?_
            rotate_left
            ((intro wz hz; (try dsimp only at hz); go_simp) <;> with_reducible rfl)
            try simp only [Act.put, List.setIfInBounds_toArray, List.set_cons_zero, List.set_cons_succ]
            refine takeH 15 (fun _ _ _ _ _ h => h) (by kernel_rfl) hHeld rfl (by kernel_rfl) (by rfl) (v := ?_) ?_ ?_
            rotate_left
            ((intro wz hz; (try dsimp only at hz); go_simp) <;> with_reducible rfl)
            try simp only [Act.put, List.setIfInBounds_toArray, List.set_cons_zero, List.set_cons_succ]
            refine takeH 16 (fun _ _ _ _ _ h => h) (by kernel_rfl) hHeld rfl (by kernel_rfl) (by rfl) (v := ?_) ?_ ?_
            rotate_left
            ((intro wz hz; (try dsimp only at hz); go_simp) <;> with_reducible rfl)
            try simp only [Act.put, List.setIfInBounds_toArray, List.set_cons_zero, List.set_cons_succ]
            refine takeH 17 (fun _ _ _ _ _ h => h) (by kernel_rfl) hHeld rfl (by kernel_rfl) (by rfl) (v := ?_) ?_ ?_
            rotate_left
            ((intro wz hz; (try dsimp only at hz); go_simp) <;> with_reducible rfl)
            try simp only [Act.put, List.setIfInBounds_toArray, List.set_cons_zero, List.set_cons_succ]
            refine takeH 18 (fun _ _ _ _ _ h => h) (by kernel_rfl) hHeld rfl (by kernel_rfl) (by rfl) (v := ?_) ?_ ?_
            rotate_left
            ((intro wz hz; (try dsimp only at hz); go_simp) <;> with_reducible rfl)
            try simp only [Act.put, List.setIfInBounds_toArray, List.set_cons_zero, List.set_cons_succ]
            refine takeH 19 (fun _ _ _ _ _ h => h) (by kernel_rfl) hHeld rfl (by kernel_rfl) (by rfl) (v := ?_) ?_ ?_
            rotate_left
            ((intro wz hz; (try dsimp only at hz); go_simp) <;> with_reducible rfl)
            try simp only [Act.put, List.setIfInBounds_toArray, List.set_cons_zero, List.set_cons_succ]
            refine skipH 20 (fun _ _ _ _ _ h => h) (by kernel_rfl) hHeld rfl (by kernel_rfl) (by rfl) ?_
            try simp only [Act.put, List.setIfInBounds_toArray, List.set_cons_zero, List.set_cons_succ]
            refine skipH 21 (fun _ _ _ _ _ h => h) (by kernel_rfl) hHeld rfl (by kernel_rfl) (by rfl) ?_
            try simp only [Act.put, List.setIfInBounds_toArray, List.set_cons_zero, List.set_cons_succ]
            refine skipH 22 (fun _ _ _ _ _ h => h) (by kernel_rfl) hHeld rfl (by kernel_rfl) (by rfl) ?_
            try simp only [Act.put, List.setIfInBounds_toArray, List.set_cons_zero, List.set_cons_succ]
            refine skipH 23 (fun _ _ _ _ _ h => h) (by kernel_rfl) hHeld rfl (by kernel_rfl) (by rfl) ?_
            try simp only [Act.put, List.setIfInBounds_toArray, List.set_cons_zero, List.set_cons_succ]
            refine skipH 24 (fun _ _ _ _ _ h => h) (by kernel_rfl) hHeld rfl (by kernel_rfl) (by rfl) ?_
            try simp only [Act.put, List.setIfInBounds_toArray, List.set_cons_zero, List.set_cons_succ]
            refine skipH 25 (fun _ _ _ _ _ h => h) (by kernel_rfl) hHeld rfl (by kernel_rfl) (by rfl) ?_
            try simp only [Act.put, List.setIfInBounds_toArray, List.set_cons_zero, List.set_cons_succ]
            refine takeH 26 (fun _ _ _ _ _ h => h) (by kernel_rfl) hHeld rfl (by kernel_rfl) (by rfl) (v := ?_) ?_ ?_
            rotate_left
            ((intro wz hz; (try dsimp only at hz); go_simp) <;> with_reducible rfl)
            try simp only [Act.put, List.setIfInBounds_toArray, List.set_cons_zero, List.set_cons_succ]
            refine takeH 27 (fun _ _ _ _ _ h => h) (by kernel_rfl) hHeld rfl (by kernel_rfl) (by rfl) (v := ?_) ?_ ?_
            rotate_left
            ((intro wz hz; (try dsimp only at hz); go_simp) <;> with_reducible rfl)
            try simp only [Act.put, List.setIfInBounds_toArray, List.set_cons_zero, List.set_cons_succ]
            refine takeH 28 (fun _ _ _ _ _ h => h) (by kernel_rfl) hHeld rfl (by kernel_rfl) (by rfl) (v := ?_) ?_ ?_
            rotate_left
            ((intro wz hz; (try dsimp only at hz); go_simp) <;> with_reducible rfl)
            try simp only [Act.put, List.setIfInBounds_toArray, List.set_cons_zero, List.set_cons_succ]
            refine wpAnyH_done (by kernel_rfl) (NoPanic.normal ?_) _
            go_wp2
            go_ret
            exact ⟨rfl, hHeld.2.2.2.2.2.2.2.2.2.2⟩
      · have cW := fun w => eWrite X Y hX hY hn w
        have hlt : X < 288230376287764481 ∧ Y < 288230376287764481 := by
          have hn := hn
          unfold Obol.isN at hn
          simp only [Bool.and_eq_true, decide_eq_true_eq] at hn
          have h1 := hn.1.1
          have h2 := hn.1.2
          rw [Obol.R_def] at h1 h2
          omega
        have cB := fun w => r7Bytes X Y hX (by omega) hY (by omega) w
        have hL8 : Hid ((Obol.be8 (Obol.codeN (X.toNat, Y.toNat))).length = 8) := Lib.hid rfl
        have hB8 := Lib.hid (B8.of (Obol.be_lt (Obol.codeN (X.toNat, Y.toNat)))).lt
        generalize Obol.be8 (Obol.codeN (X.toNat, Y.toNat)) = L8 at cW cB hL8 hB8
        replace cW := Lib.hid cW
        replace cB := Lib.hid cB
        clear hn hlt
        go_wp2_with fail
        refine (cW.out _).mono ?_
        rintro e w5 ⟨v8, rfl, hO, hb5⟩
        obtain ⟨g8, cap8, cur8, rfl, hg8, -, -, -, -, -⟩ := hO.size (by rw [hL8.out]; decide)
        rw [hL8.out] at hO ⊢
        have zA8 := RA.out.lt
        have zK8 := RK.out.lt
        replace RA := Lib.hid (RA.out.below hb5 RA.out.lt)
        replace RK := Lib.hid (RK.out.below hb5 RK.out.lt)
        have hwr := HB.out.size
        replace HB := Lib.hid (bThen HB.out hb5 HB.out.size)
        replace hO := Lib.hid hO
        clear hb5 ga0 ga1
        go_wp2_with fail
        go_loopw [13] (fun q wz => ∃ i : Int, q = .int .i64 i ∧ Hid (LoI wr.heap.size wz g8 cap8 8 i) ∧ Hid (Row wz w.heap.size #[.int .u64 X, .int .u64 Y] 26) ∧ Hid (Row wz K #[.int .u64 RP, .int .u64 RQ] 26) ∧ Hid (Below w.heap.size w wz)) (fun q _ => 8 - (intOf q).toNat)
        case atStart => exact ⟨0, rfl, Lib.hid ⟨by omega, by omega, L8, hL8.out, hB8.out, hO.out⟩, RA, RK, HB⟩
        case round =>
          clear hO RA RK HB
          obtain ⟨i, rfl, HL, RA, RK, HB⟩ := hrel
          have j0 := HL.out.1
          have j1 := HL.out.2.1
          by_cases hi : i < 8
          · obtain ⟨v, cv, fv, v0, v1, HN⟩ := HL.out.step (by omega)
            replace HN := Lib.hid HN
            have RA2 := Lib.hid (RA.out.other (c := g8) (o := i.toNat) (v := .int .u8 ((v + 1) % 256)) (by omega))
            have RK2 := Lib.hid (RK.out.other (c := g8) (o := i.toNat) (v := .int .u8 ((v + 1) % 256)) (by omega))
            have HB2 := Lib.hid (bSet (b := g8) (o := i.toNat) (u := .int .u8 ((v + 1) % 256)) HB.out (by omega))
            clear HL HB RA RK
            go_wp2_with fail
            go_roundw
            case rel => (first | exact ⟨_, rfl, HN, RA2, RK2, HB2⟩ | (repeat apply Exists.intro; exact ⟨⟨_, rfl, HN, RA2, RK2, HB2⟩, rfl⟩))
            case measure => (first | (simp [intOf]; omega) | (show 8 - (intOf (.int .i64 (i + 1))).toNat < 8 - (intOf (.int .i64 i)).toNat; simp [intOf]; omega))
          · obtain rfl : i = 8 := by omega
            clear HL
            have ga0 := RA.out.cell 0 rfl
            have ga1 := RA.out.cell 1 rfl
            go_wp2_with fail
            refine (cW.out _).mono ?_
            rintro e w6 ⟨v9, rfl, hO, hb6⟩
            obtain ⟨g9, cap9, cur9, rfl, hg9, -, -, -, -, -⟩ := hO.size (by rw [hL8.out]; decide)
            rw [hL8.out] at hO ⊢
            replace RA := Lib.hid (RA.out.below hb6 RA.out.lt)
            replace RK := Lib.hid (RK.out.below hb6 RK.out.lt)
            replace HB := Lib.hid (bThen HB.out hb6 HB.out.size)
            have hV := Lib.hid (own_blz hO hL8.out)
            clear hb6 ga0 ga1 hO
            go_wp2_with fail
            refine (cR.out _ _ _ (fun h => by
              obtain ⟨b, o, h1, h2⟩ := hb'.out h
              exact ⟨b, o, h1, h2.below HB.out (h2.lt (by rw [H'.out.len]; exact h))⟩)).mono ?_
            rintro e w7 ⟨rfl, hb7⟩
            replace RA := Lib.hid (RA.out.below hb7 RA.out.lt)
            replace RK := Lib.hid (RK.out.below hb7 RK.out.lt)
            replace HB := Lib.hid (bThen HB.out hb7 HB.out.size)
            replace hV := Lib.hid (hV.out.below hb7 (hV.out.lt (by rw [hL8.out]; decide)))
            clear hb7
            go_wp2_with fail
            have RM := Row.new w7 #[.int .u64 RP, .int .u64 RQ] 26
            have hV2 := hV.out.below (bAlloc (Below.refl _ _) (.cells #[.int .u64 RP, .int .u64 RQ] 26)) (hV.out.lt (by rw [hL8.out]; decide))
            have S0 := ss (T := fun w' => (convert 22 9 (.slice (some ⟨g9, 0, none⟩) 8 cap9)).run Try.prog w' = .ok (.string (strB L8)) w' ∧ BL w' g9 0 L8) ⟨conv8 hV2 hL8.out, hV2⟩ (RA.out.alloc (.cells #[.int .u64 RP, .int .u64 RQ] 26)) (RK.out.alloc (.cells #[.int .u64 RP, .int .u64 RQ] 26)) RM (bAlloc HB.out (.cells #[.int .u64 RP, .int .u64 RQ] 26))
            generalize w7.alloc (.cells #[.int .u64 RP, .int .u64 RQ] 26) = w8 at S0 ⊢
            generalize w7.heap.size = M at S0 ⊢
            have hE0 := errEqNil
            clear RM RA RK HB hV hV2
            rcases hEE.out with rfl | rfl
            all_goals
              refine wp_region_noPanic ?_
              refine wp_region_held_drew (S := fun w' => SS w w' w.heap.size K M X Y RP RQ (fun w' => (convert 22 9 (.slice (some ⟨g9, 0, none⟩) 8 cap9)).run Try.prog w' = .ok (.string (strB L8)) w' ∧ BL w' g9 0 L8)) (by kernel_rfl) ?_ (fun hHeld => ?_)
              · exact ss_next S0 (bDrew (Below.refl _ _)) ⟨conv8 (fun i hi => S0.2.2.2.2.2.2.1.2 i hi) hL8.out, fun i hi => S0.2.2.2.2.2.2.1.2 i hi⟩
              refine takeH 0 (fun _ _ _ _ _ h => h) (by kernel_rfl) hHeld rfl (by kernel_rfl) (by rfl) (v := ?_) ?_ ?_
              rotate_left
              ((intro wz hz; (try dsimp only at hz); go_simp) <;> with_reducible rfl)
              try simp only [Act.put, List.setIfInBounds_toArray, List.set_cons_zero, List.set_cons_succ]
              refine takeH 1 (fun _ _ _ _ _ h => h) (by kernel_rfl) hHeld rfl (by kernel_rfl) (by rfl) (v := ?_) ?_ ?_
              rotate_left
              ((intro wz hz; (try dsimp only at hz); go_simp) <;> with_reducible rfl)
              try simp only [Act.put, List.setIfInBounds_toArray, List.set_cons_zero, List.set_cons_succ]
              refine takeH 2 (fun _ _ _ _ _ h => h) (by kernel_rfl) hHeld rfl (by kernel_rfl) (by rfl) (v := ?_) ?_ ?_
              rotate_left
              ((intro wz hz; (try dsimp only at hz); go_simp) <;> with_reducible rfl)
              try simp only [Act.put, List.setIfInBounds_toArray, List.set_cons_zero, List.set_cons_succ]
              refine takeH 3 (fun _ _ _ _ _ h => h) (by kernel_rfl) hHeld rfl (by kernel_rfl) (by rfl) (v := ?_) ?_ ?_
              rotate_left
              ((intro wz hz; (try dsimp only at hz); go_simp) <;> with_reducible rfl)
              try simp only [Act.put, List.setIfInBounds_toArray, List.set_cons_zero, List.set_cons_succ]
              refine takeH 4 (fun _ _ _ _ _ h => h) (by kernel_rfl) hHeld rfl (by kernel_rfl) (by rfl) (v := ?_) ?_ ?_
              rotate_left
              ((intro wz hz; (try dsimp only at hz); go_simp) <;> with_reducible rfl)
              try simp only [Act.put, List.setIfInBounds_toArray, List.set_cons_zero, List.set_cons_succ]
              refine takeH 5 (fun _ _ _ _ _ h => h) (by kernel_rfl) hHeld rfl (by kernel_rfl) (by rfl) (v := ?_) ?_ ?_
              rotate_left
              ((intro wz hz; (try dsimp only at hz); go_simp) <;> with_reducible rfl)
              try simp only [Act.put, List.setIfInBounds_toArray, List.set_cons_zero, List.set_cons_succ]
              refine takeH 6 (fun _ _ _ _ _ h => h) (by kernel_rfl) hHeld rfl (by kernel_rfl) (by rfl) (v := ?_) ?_ ?_
              rotate_left
              ((intro wz hz; (try dsimp only at hz); go_simp) <;> with_reducible rfl)
              try simp only [Act.put, List.setIfInBounds_toArray, List.set_cons_zero, List.set_cons_succ]
              refine takeH 7 (fun _ _ _ _ _ h => h) (by kernel_rfl) hHeld rfl (by kernel_rfl) (by rfl) (v := ?_) ?_ ?_
              rotate_left
              ((intro wz hz; (try dsimp only at hz); go_simp) <;> with_reducible rfl)
              try simp only [Act.put, List.setIfInBounds_toArray, List.set_cons_zero, List.set_cons_succ]
              refine takeH 8 (fun _ _ _ _ _ h => h) (by kernel_rfl) hHeld rfl (by kernel_rfl) (by rfl) (v := ?_) ?_ ?_
              rotate_left
              ((intro wz hz; (try dsimp only at hz); go_simp) <;> with_reducible rfl)
              try simp only [Act.put, List.setIfInBounds_toArray, List.set_cons_zero, List.set_cons_succ]
              refine takeH 9 (fun _ _ _ _ _ h => h) (by kernel_rfl) hHeld rfl (by kernel_rfl) (by rfl) (v := ?_) ?_ ?_
              rotate_left
              ((intro wz hz; (try dsimp only at hz); go_simp) <;> with_reducible rfl)
              try simp only [Act.put, List.setIfInBounds_toArray, List.set_cons_zero, List.set_cons_succ]
              refine takeH 10 (fun _ _ _ _ _ h => h) (by kernel_rfl) hHeld rfl (by kernel_rfl) (by rfl) (v := ?_) ?_ ?_
              rotate_left
              ((intro wz hz; (try dsimp only at hz); go_simp) <;> with_reducible rfl)
              try simp only [Act.put, List.setIfInBounds_toArray, List.set_cons_zero, List.set_cons_succ]
              refine takeH 11 (fun _ _ _ _ _ h => h) (by kernel_rfl) hHeld rfl (by kernel_rfl) (by rfl) (v := ?_) ?_ ?_
              rotate_left
              ((intro wz hz; (try dsimp only at hz); go_simp) <;> with_reducible rfl)
              try simp only [Act.put, List.setIfInBounds_toArray, List.set_cons_zero, List.set_cons_succ]
              refine takeH 12 (fun _ _ _ _ _ h => h) (by kernel_rfl) hHeld rfl (by kernel_rfl) (by rfl) (v := ?_) ?_ ?_
              rotate_left
              ((intro wz hz; (try dsimp only at hz); go_simp) <;> with_reducible rfl)
              try simp only [Act.put, List.setIfInBounds_toArray, List.set_cons_zero, List.set_cons_succ]
              refine takeH 13 (fun _ _ _ _ _ h => h) (by kernel_rfl) hHeld rfl (by kernel_rfl) (by rfl) (v := ?_) ?_ ?_
              rotate_left
              ((intro wz hz; (try dsimp only at hz); go_simp) <;> with_reducible rfl)
              try simp only [Act.put, List.setIfInBounds_toArray, List.set_cons_zero, List.set_cons_succ]
              refine takeH 14 (fun _ _ _ _ _ h => h) (by kernel_rfl) hHeld rfl (by kernel_rfl) (by rfl) (v := ?_) ?_ ?_
              rotate_left
              ((intro wz hz; (try dsimp only at hz); go_simp) <;> with_reducible rfl)
              try simp only [Act.put, List.setIfInBounds_toArray, List.set_cons_zero, List.set_cons_succ]
              refine takeH 15 (fun _ _ _ _ _ h => h) (by kernel_rfl) hHeld rfl (by kernel_rfl) (by rfl) (v := ?_) ?_ ?_
              rotate_left
              ((intro wz hz; (try dsimp only at hz); go_simp) <;> with_reducible rfl)
              try simp only [Act.put, List.setIfInBounds_toArray, List.set_cons_zero, List.set_cons_succ]
              refine takeH 16 (fun _ _ _ _ _ h => h) (by kernel_rfl) hHeld rfl (by kernel_rfl) (by rfl) (v := ?_) ?_ ?_
              rotate_left
              ((intro wz hz; (try dsimp only at hz); go_simp) <;> with_reducible rfl)
              try simp only [Act.put, List.setIfInBounds_toArray, List.set_cons_zero, List.set_cons_succ]
              refine takeH 17 (fun _ _ _ _ _ h => h) (by kernel_rfl) hHeld rfl (by kernel_rfl) (by rfl) (v := ?_) ?_ ?_
              rotate_left
              ((intro wz hz; (try dsimp only at hz); go_simp) <;> with_reducible rfl)
              try simp only [Act.put, List.setIfInBounds_toArray, List.set_cons_zero, List.set_cons_succ]
              refine takeH 18 (fun _ _ _ _ _ h => h) (by kernel_rfl) hHeld rfl (by kernel_rfl) (by rfl) (v := ?_) ?_ ?_
              rotate_left
              ((intro wz hz; (try dsimp only at hz); go_simp) <;> with_reducible rfl)
              try simp only [Act.put, List.setIfInBounds_toArray, List.set_cons_zero, List.set_cons_succ]
              refine takeH 19 (fun _ _ _ _ _ h => h) (by kernel_rfl) hHeld rfl (by kernel_rfl) (by rfl) (v := ?_) ?_ ?_
              rotate_left
              ((intro wz hz; (try dsimp only at hz); go_simp) <;> with_reducible rfl)
              try simp only [Act.put, List.setIfInBounds_toArray, List.set_cons_zero, List.set_cons_succ]
              refine takeH 20 (fun _ _ _ _ _ h => h) (by kernel_rfl) hHeld rfl (by kernel_rfl) (by rfl) (v := ?_) ?_ ?_
              rotate_left
              ((intro wz hz; (try dsimp only at hz); go_simp) <;> with_reducible rfl)
              try simp only [Act.put, List.setIfInBounds_toArray, List.set_cons_zero, List.set_cons_succ]
              refine takeH 21 (fun _ _ _ _ _ h => h) (by kernel_rfl) hHeld rfl (by kernel_rfl) (by rfl) (v := ?_) ?_ ?_
              rotate_left
              ((intro wz hz; (try dsimp only at hz); go_simp) <;> with_reducible rfl)
              try simp only [Act.put, List.setIfInBounds_toArray, List.set_cons_zero, List.set_cons_succ]
              refine takeH 22 (fun _ _ _ _ _ h => h) (by kernel_rfl) hHeld rfl (by kernel_rfl) (by rfl) (v := ?_) ?_ ?_
              rotate_left
              ((intro wz hz; (try dsimp only at hz); go_simp) <;> with_reducible rfl)
              try simp only [Act.put, List.setIfInBounds_toArray, List.set_cons_zero, List.set_cons_succ]
              refine stepH 23 (by kernel_rfl) rfl (by rfl) (fun K hK => ?_)
              go_simp
              refine (cB.out _).mono ?_
              rintro e w9 ⟨g6, rfl, hg6, R6, hb9⟩
              have hcv := conv8 (cap := 8) (n := 8) R6.bl hL8.out
              have hV9 := hHeld.2.2.2.2.2.2.1.2.below hb9 (hHeld.2.2.2.2.2.2.1.2.lt (by rw [hL8.out]; decide))
              refine hK.out _ _ ?_ (fun hHeld => ?_)
              · exact ss_next hHeld hb9 ⟨conv8 hV9 hL8.out, hV9⟩
              clear hK K
              try simp only [Act.put, List.setIfInBounds_toArray, List.set_cons_zero, List.set_cons_succ]
              refine stepH 24 (by kernel_rfl) rfl (by rfl) (fun K hK => ?_)
              go_simp
              refine hK.out _ _ ?_ (fun hHeld => ?_)
              · exact hHeld
              clear hK K
              try simp only [Act.put, List.setIfInBounds_toArray, List.set_cons_zero, List.set_cons_succ]
              refine takeH 25 (fun _ _ _ _ _ h => h) (by kernel_rfl) hHeld rfl (by kernel_rfl) (by rfl) (v := ?_) ?_ ?_
              rotate_left
              ((intro wz hz; (try dsimp only at hz); go_simp) <;> with_reducible rfl)
              try simp only [Act.put, List.setIfInBounds_toArray, List.set_cons_zero, List.set_cons_succ]
              refine takeH 26 (fun _ _ _ _ _ h => h) (by kernel_rfl) hHeld rfl (by kernel_rfl) (by rfl) (v := ?_) ?_ ?_
              rotate_left
              ((intro wz hz; (try dsimp only at hz); go_simp) <;> with_reducible rfl)
              try simp only [Act.put, List.setIfInBounds_toArray, List.set_cons_zero, List.set_cons_succ]
              refine takeH 27 (fun _ _ _ _ _ h => h) (by kernel_rfl) hHeld rfl (by kernel_rfl) (by rfl) (v := ?_) ?_ ?_
              rotate_left
              ((intro wz hz; (try dsimp only at hz); go_simp) <;> with_reducible rfl)
              try simp only [Act.put, List.setIfInBounds_toArray, List.set_cons_zero, List.set_cons_succ]
              refine takeH 28 (fun _ _ _ _ _ h => h) (by kernel_rfl) hHeld rfl (by kernel_rfl) (by rfl) (v := ?_) ?_ ?_
              rotate_left
              ((intro wz hz; (try dsimp only at hz); go_simp) <;> with_reducible rfl)
              try simp only [Act.put, List.setIfInBounds_toArray, List.set_cons_zero, List.set_cons_succ]
              refine wpAnyH_done (by kernel_rfl) (NoPanic.normal ?_) _
              go_wp2
              go_ret
              exact ⟨rfl, hHeld.2.2.2.2.2.2.2.2.2.2⟩

end Go.Proofs.Ytcdfpceagobicaa
