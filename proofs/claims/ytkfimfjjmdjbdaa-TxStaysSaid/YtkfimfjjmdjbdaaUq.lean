import Derived.Test.YtkfimfjjmdjbdaaUp
import Derived.Test.YtkfimfjjmdjbdaaUg
set_option linter.unusedVariables false
set_option linter.unusedSimpArgs false
set_option linter.unusedSectionVars false
/- Walks: the reference of layer 3: multiples, points of order R. -/
namespace Go.Proofs.Ytkfimfjjmdjbdaa
open Go.RowKit
set_option linter.unusedVariables false

noncomputable def timO (a : Option (Nat × Nat)) (k : Nat) : Nat → Option (Nat × Nat) → Option (Nat × Nat)
  | 0, out => out
  | j + 1, out => timO a k j (if k / 2 ^ j % 2 = 1 then Obol.sumC (Obol.sumC out out) a else Obol.sumC out out)
theorem timO_some (a : Nat × Nat) (k : Nat) : ∀ j o, timO (.some a) k j o = Obol.timC a k j o
  | 0, _ => rfl
  | j + 1, o => by rw [timO, Obol.timC, timO_some a k j]
theorem timO_none (k : Nat) : ∀ j, timO Option.none k j Option.none = Option.none
  | 0 => rfl
  | j + 1 => by
    rw [timO]
    have h : (if k / 2 ^ j % 2 = 1 then Obol.sumC (Obol.sumC Option.none Option.none) Option.none else Obol.sumC Option.none Option.none) = Option.none := by split <;> rfl
    rw [h]
    exact timO_none k j
structure TimI (a : Option (Nat × Nat)) (k : Nat) (p : Option (Nat × Nat)) (oi : Bool) (ox oy c : Int) : Prop where
  c0 : 0 ≤ c
  c1 : c ≤ 64
  is : IsO p oi ox oy
  eq : timO a k (64 - c.toNat) p = timO a k 64 Option.none
theorem TimI.one {a p : Option (Nat × Nat)} {k : Nat} {oi : Bool} {ox oy c y : Int} (h : TimI a k p oi ox oy c) (hk : k = y.toNat) (hy : 0 ≤ y) (hc : c < 64) (hb : bitI y c = 1) {oi' : Bool} {ox' oy' : Int} (hs : IsO (Obol.sumC (Obol.sumC p p) a) oi' ox' oy') :
    TimI a k (Obol.sumC (Obol.sumC p p) a) oi' ox' oy' (c + 1) := by
  have c0 := h.c0
  refine ⟨by omega, by omega, hs, ?_⟩
  have he := h.eq
  have hb2 := bitI_toNat y c hy c0 hc
  rw [show 64 - c.toNat = (63 - c.toNat) + 1 by omega, timO, if_pos (by rw [hk]; omega)] at he
  rw [show 64 - (c + 1).toNat = 63 - c.toNat by omega]
  exact he
theorem TimI.zero {a p : Option (Nat × Nat)} {k : Nat} {oi : Bool} {ox oy c y : Int} (h : TimI a k p oi ox oy c) (hk : k = y.toNat) (hy : 0 ≤ y) (hc : c < 64) (hb : bitI y c = 0) {oi' : Bool} {ox' oy' : Int} (hs : IsO (Obol.sumC p p) oi' ox' oy') :
    TimI a k (Obol.sumC p p) oi' ox' oy' (c + 1) := by
  have c0 := h.c0
  refine ⟨by omega, by omega, hs, ?_⟩
  have he := h.eq
  have hb2 := bitI_toNat y c hy c0 hc
  rw [show 64 - c.toNat = (63 - c.toNat) + 1 by omega, timO, if_neg (by rw [hk]; omega)] at he
  rw [show 64 - (c + 1).toNat = 63 - c.toNat by omega]
  exact he
theorem TimI.done {a p : Option (Nat × Nat)} {k : Nat} {oi : Bool} {ox oy c : Int} (h : TimI a k p oi ox oy c) (hc : ¬ c < 64) : IsO (timO a k 64 Option.none) oi ox oy := by
  have c1 := h.c1
  have he := h.eq
  rw [show 64 - c.toNat = 0 by omega, timO] at he
  rw [← he]
  exact h.is

set_option maxRecDepth 8000 in
set_option maxHeartbeats 8000000 in
theorem r3Times (a : Option (Nat × Nat)) (i : Bool) (X Y k : Int) (ha0 : IsO a i X Y) (hk : 0 ≤ k) (hk1 : k ≤ 18446744073709551615) (w : World) :
    Calls Try.prog 60 #[ptV i X Y, .int .u64 k] w (SumSaid (timO a k.toNat 64 Option.none) w) := by
  have ha := Lib.hid ha0
  have I0 : Hid (TimI a k.toNat Option.none true 0 0 0) := Lib.hid ⟨by omega, by omega, ⟨rfl, rfl, rfl⟩, rfl⟩
  clear ha0
  go_enter Try.func60, Try.ntmps60
  go_upto_region 1 with fail
  have hR1 := ((HR.refl w).new #[.bool i, .int .u64 X, .int .u64 Y] 31).new #[.bool false, .int .u64 0, .int .u64 0] 31
  simp only [World.size_alloc] at hR1
  have hbw := hR1.lt (b := w.heap.size + 1) (cs := #[.bool false, .int .u64 0, .int .u64 0]) (t := 31) (by simp)
  generalize (w.alloc (.cells #[.bool i, .int .u64 X, .int .u64 Y] 31)).alloc (.cells #[.bool false, .int .u64 0, .int .u64 0] 31) = w2 at hR1 hbw ⊢
  generalize hb4 : w.heap.size + 1 = b4 at hR1 hbw ⊢
  generalize hb1 : w.heap.size = b1 at hR1 ⊢
  have hbs : Hid (w.heap.size ≤ b1 ∧ b1 < b4 ∧ b4 < w2.heap.size) := Lib.hid (by omega)
  have H0 : Hid (HR w w2 [(b4, #[.bool false, .int .u64 0, .int .u64 0], 31), (b1, #[.bool i, .int .u64 X, .int .u64 Y], 31)]) := Lib.hid hR1
  clear hb1 hb4 hR1 hbw
  go_upto_region 2 with fail
  have hR5 := H0.out.new #[.bool true, .int .u64 0, .int .u64 0] 31
  have hlt5 := hbs.out
  generalize w2.alloc (.cells #[.bool true, .int .u64 0, .int .u64 0] 31) = w3 at hR5 ⊢
  generalize w2.heap.size = b5 at hR5 hlt5 ⊢
  have H3 : Hid (HR w w3 [(b5, #[.bool true, .int .u64 0, .int .u64 0], 31), (b4, #[.bool false, .int .u64 0, .int .u64 0], 31), (b1, #[.bool i, .int .u64 X, .int .u64 Y], 31)]) := Lib.hid hR5
  have hbt : Hid (w.heap.size ≤ b1 ∧ b1 < b4 ∧ b4 < b5) := Lib.hid hlt5
  clear H0 hR5 hlt5 hbs
  go_wp2_with fail
  go_loopw [6] (fun q wr => ∃ (p : Option (Nat × Nat)) (oi : Bool) (ox oy c : Int), q = .int .i64 c ∧ Hid (HR w wr [(b5, #[.bool oi, .int .u64 ox, .int .u64 oy], 31), (b4, #[.bool false, .int .u64 0, .int .u64 0], 31), (b1, #[.bool i, .int .u64 X, .int .u64 Y], 31)]) ∧ Hid (TimI a k.toNat p oi ox oy c)) (fun q _ => (64 - intOf q).toNat)
  case atStart => exact ⟨Option.none, true, 0, 0, 0, rfl, H3, I0⟩
  case round =>
    clear H3 I0
    obtain ⟨p, oi, ox, oy, c, rfl, HR0, HI⟩ := hrel
    have i0 := HI.out.c0
    have i1 := HI.out.c1
    have ea := bitI_bits k c hk hk1
    by_cases hi : c < 64
    · have cS := Lib.hid (fun W => r3Sum p p oi ox oy oi ox oy HI.out.is HI.out.is W)
      have c_b5_0 := HR0.out.cell (b := b5) (cs := #[.bool oi, .int .u64 ox, .int .u64 oy]) (t := 31) (by simp) 0 rfl
      have c_b5_1 := HR0.out.cell (b := b5) (cs := #[.bool oi, .int .u64 ox, .int .u64 oy]) (t := 31) (by simp) 1 rfl
      have c_b5_2 := HR0.out.cell (b := b5) (cs := #[.bool oi, .int .u64 ox, .int .u64 oy]) (t := 31) (by simp) 2 rfl
      have c_b1_0 := HR0.out.cell (b := b1) (cs := #[.bool i, .int .u64 X, .int .u64 Y]) (t := 31) (by simp) 0 rfl
      have c_b1_1 := HR0.out.cell (b := b1) (cs := #[.bool i, .int .u64 X, .int .u64 Y]) (t := 31) (by simp) 1 rfl
      have c_b1_2 := HR0.out.cell (b := b1) (cs := #[.bool i, .int .u64 X, .int .u64 Y]) (t := 31) (by simp) 2 rfl
      go_wp2_with fail
      refine (cS.out _).mono ?_
      rintro e v1 ⟨⟨xi, xx, xy, hx, rfl⟩, hv1⟩
      have K1 := Lib.hid (HR0.out.next hv1)
      have hX := Lib.hid hx
      clear c_b5_0 c_b5_1 c_b5_2 c_b1_0 c_b1_1 c_b1_2
      clear hv1 hx HR0 cS
      have c_b5_0 := K1.out.cell (b := b5) (cs := #[.bool oi, .int .u64 ox, .int .u64 oy]) (t := 31) (by simp) 0 rfl
      have c_b5_1 := K1.out.cell (b := b5) (cs := #[.bool oi, .int .u64 ox, .int .u64 oy]) (t := 31) (by simp) 1 rfl
      have c_b5_2 := K1.out.cell (b := b5) (cs := #[.bool oi, .int .u64 ox, .int .u64 oy]) (t := 31) (by simp) 2 rfl
      have f_b5_0 := K1.out.free (b := b5) (cs := #[.bool oi, .int .u64 ox, .int .u64 oy]) (t := 31) (by simp) 0
      have f_b5_1 := K1.out.free (b := b5) (cs := #[.bool oi, .int .u64 ox, .int .u64 oy]) (t := 31) (by simp) 1
      have f_b5_2 := K1.out.free (b := b5) (cs := #[.bool oi, .int .u64 ox, .int .u64 oy]) (t := 31) (by simp) 2
      rcases bitI_01 k c with hB | hB
      · have HN := Lib.hid (HI.out.zero rfl hk hi hB hX.out)
        rw [hB] at ea
        replace hB := Lib.hid hB
        go_wp2_with fail
        clear c_b5_0 c_b5_1 c_b5_2 f_b5_0 f_b5_1 f_b5_2
        exact ⟨⟨_, _, _, _, _, rfl, Lib.hid (HR.put3 K1.out (by have := hbt.out; simp; omega) (by have := hbt.out; omega)), HN⟩, by simp [intOf]; omega⟩
      · have HN := fun oi' ox' oy' hs => Lib.hid (HI.out.one (oi' := oi') (ox' := ox') (oy' := oy') rfl hk hi hB hs)
        have cT := Lib.hid (fun W => r3Sum (Obol.sumC p p) a xi xx xy i X Y hX.out ha.out W)
        rw [hB] at ea
        replace hB := Lib.hid hB
        replace HN := Lib.hid HN
        go_upto_region 6 with fail
        have J1 := Lib.hid (HR.put3 (u := .bool xi) (v := .int .u64 xx) (x := .int .u64 xy) K1.out (by have := hbt.out; simp; omega) (by have := hbt.out; omega))
        clear c_b5_0 c_b5_1 c_b5_2 f_b5_0 f_b5_1 f_b5_2
        generalize ((v1.setCell ⟨b5, 0, none⟩ (.bool xi)).setCell ⟨b5, 1, none⟩ (.int .u64 xx)).setCell ⟨b5, 2, none⟩ (.int .u64 xy) = m1 at J1 ⊢
        clear K1
        have c_b5_0 := J1.out.cell (b := b5) (cs := #[.bool xi, .int .u64 xx, .int .u64 xy]) (t := 31) (by simp) 0 rfl
        have c_b5_1 := J1.out.cell (b := b5) (cs := #[.bool xi, .int .u64 xx, .int .u64 xy]) (t := 31) (by simp) 1 rfl
        have c_b5_2 := J1.out.cell (b := b5) (cs := #[.bool xi, .int .u64 xx, .int .u64 xy]) (t := 31) (by simp) 2 rfl
        have c_b1_0 := J1.out.cell (b := b1) (cs := #[.bool i, .int .u64 X, .int .u64 Y]) (t := 31) (by simp) 0 rfl
        have c_b1_1 := J1.out.cell (b := b1) (cs := #[.bool i, .int .u64 X, .int .u64 Y]) (t := 31) (by simp) 1 rfl
        have c_b1_2 := J1.out.cell (b := b1) (cs := #[.bool i, .int .u64 X, .int .u64 Y]) (t := 31) (by simp) 2 rfl
        go_wp2_with fail
        refine (cT.out _).mono ?_
        rintro e v2 ⟨⟨yi, yx, yy, hy, rfl⟩, hv2⟩
        have K2 := Lib.hid (J1.out.next hv2)
        have hY := Lib.hid (HN.out yi yx yy hy)
        clear c_b5_0 c_b5_1 c_b5_2 c_b1_0 c_b1_1 c_b1_2
        clear hv2 hy J1 cT HN
        have c_b5_0 := K2.out.cell (b := b5) (cs := #[.bool xi, .int .u64 xx, .int .u64 xy]) (t := 31) (by simp) 0 rfl
        have c_b5_1 := K2.out.cell (b := b5) (cs := #[.bool xi, .int .u64 xx, .int .u64 xy]) (t := 31) (by simp) 1 rfl
        have c_b5_2 := K2.out.cell (b := b5) (cs := #[.bool xi, .int .u64 xx, .int .u64 xy]) (t := 31) (by simp) 2 rfl
        have f_b5_0 := K2.out.free (b := b5) (cs := #[.bool xi, .int .u64 xx, .int .u64 xy]) (t := 31) (by simp) 0
        have f_b5_1 := K2.out.free (b := b5) (cs := #[.bool xi, .int .u64 xx, .int .u64 xy]) (t := 31) (by simp) 1
        have f_b5_2 := K2.out.free (b := b5) (cs := #[.bool xi, .int .u64 xx, .int .u64 xy]) (t := 31) (by simp) 2
        go_wp2_with fail
        clear c_b5_0 c_b5_1 c_b5_2 f_b5_0 f_b5_1 f_b5_2
        exact ⟨⟨_, _, _, _, _, rfl, Lib.hid (HR.put3 K2.out (by have := hbt.out; simp; omega) (by have := hbt.out; omega)), hY.out⟩, by simp [intOf]; omega⟩
    · have hD := Lib.hid (HI.out.done hi)
      have c_b5_0 := HR0.out.cell (b := b5) (cs := #[.bool oi, .int .u64 ox, .int .u64 oy]) (t := 31) (by simp) 0 rfl
      have c_b5_1 := HR0.out.cell (b := b5) (cs := #[.bool oi, .int .u64 ox, .int .u64 oy]) (t := 31) (by simp) 1 rfl
      have c_b5_2 := HR0.out.cell (b := b5) (cs := #[.bool oi, .int .u64 ox, .int .u64 oy]) (t := 31) (by simp) 2 rfl
      have c_b4_0 := HR0.out.cell (b := b4) (cs := #[.bool false, .int .u64 0, .int .u64 0]) (t := 31) (by simp) 0 rfl
      have c_b4_1 := HR0.out.cell (b := b4) (cs := #[.bool false, .int .u64 0, .int .u64 0]) (t := 31) (by simp) 1 rfl
      have c_b4_2 := HR0.out.cell (b := b4) (cs := #[.bool false, .int .u64 0, .int .u64 0]) (t := 31) (by simp) 2 rfl
      have f_b4_0 := HR0.out.free (b := b4) (cs := #[.bool false, .int .u64 0, .int .u64 0]) (t := 31) (by simp) 0
      have f_b4_1 := HR0.out.free (b := b4) (cs := #[.bool false, .int .u64 0, .int .u64 0]) (t := 31) (by simp) 1
      have f_b4_2 := HR0.out.free (b := b4) (cs := #[.bool false, .int .u64 0, .int .u64 0]) (t := 31) (by simp) 2
      have hL := Lib.hid (HR.put3 (u := .bool oi) (v := .int .u64 ox) (x := .int .u64 oy) (HR.sub (qs := [(b4, #[.bool false, .int .u64 0, .int .u64 0], 31)]) HR0.out (by simp)) (by simp) (by have := hbt.out; omega))
      have s0 := hL.out.cell (b := b4) (cs := #[.bool oi, .int .u64 ox, .int .u64 oy]) (t := 31) (by simp) 0 rfl
      have s1 := hL.out.cell (b := b4) (cs := #[.bool oi, .int .u64 ox, .int .u64 oy]) (t := 31) (by simp) 1 rfl
      have s2 := hL.out.cell (b := b4) (cs := #[.bool oi, .int .u64 ox, .int .u64 oy]) (t := 31) (by simp) 2 rfl
      go_wp2_with fail
      refine bodyPost_ret (v := ptV oi ox oy) (by simp [results, Try.results60, go_sem, s0, s1, s2]) rfl ⟨⟨_, _, _, hD.out, rfl⟩, hL.out.2⟩

theorem r3field_inf (b : Bool) (x y : Value) (w : World) : (Instr.field 31 (.agg #[.bool b, x, y]) 0).run Try.prog w = .ok (.bool b) w := by kernel_rfl
def ptO (i : Bool) (X Y : Int) : Option (Nat × Nat) := if i = true then Option.none else .some (X.toNat, Y.toNat)
theorem ptO_is {i : Bool} {X Y : Int} (h : isPt i X Y = true) (hX : 0 ≤ X) (hY : 0 ≤ Y) : IsO (ptO i X Y) i X Y := by
  cases i
  · exact ⟨rfl, (Int.toNat_of_nonneg hX).symm, (Int.toNat_of_nonneg hY).symm⟩
  · have h2 : (X == 0 && Y == 0) = true := h
    have h1 : X = 0 ∧ Y = 0 := by simpa using h2
    exact ⟨rfl, h1.1, h1.2⟩
theorem infC_times {i : Bool} {X Y : Int} {k : Nat} {oi : Bool} {ox oy : Int} (h : IsO (timO (ptO i X Y) k 64 Option.none) oi ox oy) : oi = infC i X Y k := by
  cases i
  · have h2 : timO (ptO false X Y) k 64 Option.none = Obol.timC (X.toNat, Y.toNat) k 64 Option.none := timO_some _ _ _ _
    rw [h2] at h
    unfold infC
    rw [Bool.false_or]
    cases hT : Obol.timC (X.toNat, Y.toNat) k 64 Option.none with
    | none => rw [hT] at h; exact h.1
    | some q => rw [hT] at h; exact h.1
  · have h2 : timO (ptO true X Y) k 64 Option.none = Option.none := timO_none _ _
    rw [h2] at h
    exact h.1

set_option maxRecDepth 8000 in
theorem r3In (i : Bool) (X Y : Int) (hX : 0 ≤ X) (hY : 0 ≤ Y) (w : World) :
    Calls Try.prog 33 #[ptV i X Y] w fun e w' => e = .returned (.bool (inPt i X Y)) ∧ Below w.heap.size w w' := by
  cases hp : isPt i X Y
  · have hI := Lib.hid hp
    have hR : Hid (inPt i X Y = false) := Lib.hid (by unfold inPt; rw [hp, Bool.false_and])
    clear hp
    go_enter Try.func33, Try.ntmps33
    go_wp2_with (go_at_call 59; refine (r3Is _ _ _ hX hY _).mono ?_; rintro e w1 ⟨rfl, hb⟩; rw [hI.out]; obtain ⟨hc, hf⟩ := bcell hb; have hz := hb.size; (try simp at hz))
    go_ret
    exact ⟨by rw [hR.out]; rfl, by repeat (first | exact Below.refl _ _ | assumption | apply bDrewN | apply bDrew | apply bAlloc | refine bSet ?_ (by omega) | refine bThen ?_ (by assumption) (by simp <;> omega))⟩
  · have hI := Lib.hid hp
    have hR : Hid (inPt i X Y = infC i X Y Obol.R) := Lib.hid (by unfold inPt; rw [hp, Bool.true_and])
    have hM := Lib.hid (fun w => r3Times (ptO i X Y) i X Y 288230376287764481 (ptO_is hp hX hY) (by omega) (by omega) w)
    rw [litR] at hM
    have hfl := r3field_inf
    clear hp
    go_enter Try.func33, Try.ntmps33
    go_wp2_with (first | (go_at_call 59; refine (r3Is _ _ _ hX hY _).mono ?_; rintro e w1 ⟨rfl, hb⟩; rw [hI.out]; obtain ⟨hc, hf⟩ := bcell hb; have hz := hb.size; (try simp at hz)) | (go_at_call 60; refine (hM.out _).mono ?_; rintro e w2 ⟨⟨oi, ox, oy, ho, rfl⟩, hb2⟩; have hO := Lib.hid (infC_times ho); clear ho; replace hb := bThen hb hb2 hb.size; clear hb2; obtain ⟨hc2, hf2⟩ := bcell hb; have hz2 := hb.size; (try simp at hz2)))
    go_ret
    exact ⟨by rw [hR.out, ← hO.out]; rfl, by repeat (first | exact Below.refl _ _ | assumption | apply bDrewN | apply bDrew | apply bAlloc | refine bSet ?_ (by omega) | refine bThen ?_ (by assumption) (by simp <;> omega))⟩

end Go.Proofs.Ytkfimfjjmdjbdaa
