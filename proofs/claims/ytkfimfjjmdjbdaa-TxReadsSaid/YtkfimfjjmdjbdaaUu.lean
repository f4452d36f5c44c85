import Derived.Test.YtkfimfjjmdjbdaaUt
set_option linter.unusedVariables false
set_option linter.unusedSimpArgs false
set_option linter.unusedSectionVars false
/- Walks: the reference of layer 19: a transaction of bytes. -/
namespace Go.Proofs.Ytkfimfjjmdjbdaa
open Go.RowKit
set_option linter.unusedVariables false
set_option linter.unusedSimpArgs false

set_option maxRecDepth 100000 in
set_option maxHeartbeats 8000000 in
theorem r19ReadT (b o c len : Nat) (L : List Nat) (hl : L.length = len) (hn2 : len ≤ 1000000) (hF : posL L 3 + 16 ≤ len) (hc : len ≤ c) (hc2 : c ≤ 9223372036854775807) (hb256 : ∀ i, L.getD i 0 < 256) (w : World) (hBL : BL w b o L) (hlt : b < w.heap.size) : Calls Try.prog 16 #[.slice (some ⟨b, o, none⟩) len c] w (RrO L b o c w) := by
  have hB := Lib.hid (fun (W : World) (hb : Below w.heap.size w W) => (show BL W b o L from hBL.below hb hlt))
  have hfit := Lib.hid hF
  have hlen := Lib.hid hl
  have hbv := Lib.hid hb256
  have hF195 : 195 ≤ len := by have := (posL_le L 3).2; omega
  have cSz := Lib.hid (fun W (h : SlI w.heap.size W (some ⟨b, o, none⟩) c L) => r19Size w.heap.size (some ⟨b, o, none⟩) len c L hl hn2 hb256 W h)
  have hSl := Lib.hid (fun (W : World) (hb : Below w.heap.size w W) => (show SlI w.heap.size W (some ⟨b, o, none⟩) c L from ⟨by omega, hc2, (fun h => by cases h), fun _ => ⟨b, o, rfl, hlt, hBL.below hb hlt⟩⟩))
  obtain ⟨v0, hv0⟩ : ∃ v : Int, ((numAt L 0 : Nat) : Int) = v := ⟨_, rfl⟩
  have cn00 : ∀ W, BL W b o L → Calls Try.prog 44 #[.slice (some ⟨b, o, none⟩) len c, .int .i64 0] W fun e w' => e = .returned (.int .u64 ((numAt L 0 : Nat) : Int)) ∧ w' = W := fun W h => r19Number b o c L len hl 0 (by omega) hc hc2 hb256 W h
  rw [hv0] at cn00
  have cn0 := Lib.hid cn00
  replace hv0 := Lib.hid hv0
  clear cn00
  obtain ⟨v8, hv8⟩ : ∃ v : Int, ((numAt L 8 : Nat) : Int) = v := ⟨_, rfl⟩
  have cn80 : ∀ W, BL W b o L → Calls Try.prog 44 #[.slice (some ⟨b, o, none⟩) len c, .int .i64 8] W fun e w' => e = .returned (.int .u64 ((numAt L 8 : Nat) : Int)) ∧ w' = W := fun W h => r19Number b o c L len hl 8 (by omega) hc hc2 hb256 W h
  rw [hv8] at cn80
  have cn8 := Lib.hid cn80
  replace hv8 := Lib.hid hv8
  clear cn80
  obtain ⟨v16, hv16⟩ : ∃ v : Int, ((numAt L 16 : Nat) : Int) = v := ⟨_, rfl⟩
  have cn160 : ∀ W, BL W b o L → Calls Try.prog 44 #[.slice (some ⟨b, o, none⟩) len c, .int .i64 16] W fun e w' => e = .returned (.int .u64 ((numAt L 16 : Nat) : Int)) ∧ w' = W := fun W h => r19Number b o c L len hl 16 (by omega) hc hc2 hb256 W h
  rw [hv16] at cn160
  have cn16 := Lib.hid cn160
  replace hv16 := Lib.hid hv16
  clear cn160
  obtain ⟨v40, hv40⟩ : ∃ v : Int, ((numAt L 40 : Nat) : Int) = v := ⟨_, rfl⟩
  have cn400 : ∀ W, BL W b o L → Calls Try.prog 44 #[.slice (some ⟨b, o, none⟩) len c, .int .i64 40] W fun e w' => e = .returned (.int .u64 ((numAt L 40 : Nat) : Int)) ∧ w' = W := fun W h => r19Number b o c L len hl 40 (by omega) hc hc2 hb256 W h
  rw [hv40] at cn400
  have cn40 := Lib.hid cn400
  replace hv40 := Lib.hid hv40
  clear cn400
  obtain ⟨v48, hv48⟩ : ∃ v : Int, ((numAt L 48 : Nat) : Int) = v := ⟨_, rfl⟩
  have cn480 : ∀ W, BL W b o L → Calls Try.prog 44 #[.slice (some ⟨b, o, none⟩) len c, .int .i64 48] W fun e w' => e = .returned (.int .u64 ((numAt L 48 : Nat) : Int)) ∧ w' = W := fun W h => r19Number b o c L len hl 48 (by omega) hc hc2 hb256 W h
  rw [hv48] at cn480
  have cn48 := Lib.hid cn480
  replace hv48 := Lib.hid hv48
  clear cn480
  obtain ⟨v56, hv56⟩ : ∃ v : Int, ((numAt L 56 : Nat) : Int) = v := ⟨_, rfl⟩
  have cn560 : ∀ W, BL W b o L → Calls Try.prog 44 #[.slice (some ⟨b, o, none⟩) len c, .int .i64 56] W fun e w' => e = .returned (.int .u64 ((numAt L 56 : Nat) : Int)) ∧ w' = W := fun W h => r19Number b o c L len hl 56 (by omega) hc hc2 hb256 W h
  rw [hv56] at cn560
  have cn56 := Lib.hid cn560
  replace hv56 := Lib.hid hv56
  clear cn560
  obtain ⟨v64, hv64⟩ : ∃ v : Int, ((numAt L 64 : Nat) : Int) = v := ⟨_, rfl⟩
  have cn640 : ∀ W, BL W b o L → Calls Try.prog 44 #[.slice (some ⟨b, o, none⟩) len c, .int .i64 64] W fun e w' => e = .returned (.int .u64 ((numAt L 64 : Nat) : Int)) ∧ w' = W := fun W h => r19Number b o c L len hl 64 (by omega) hc hc2 hb256 W h
  rw [hv64] at cn640
  have cn64 := Lib.hid cn640
  replace hv64 := Lib.hid hv64
  clear cn640
  obtain ⟨v72, hv72⟩ : ∃ v : Int, ((numAt L 72 : Nat) : Int) = v := ⟨_, rfl⟩
  have cn720 : ∀ W, BL W b o L → Calls Try.prog 44 #[.slice (some ⟨b, o, none⟩) len c, .int .i64 72] W fun e w' => e = .returned (.int .u64 ((numAt L 72 : Nat) : Int)) ∧ w' = W := fun W h => r19Number b o c L len hl 72 (by omega) hc hc2 hb256 W h
  rw [hv72] at cn720
  have cn72 := Lib.hid cn720
  replace hv72 := Lib.hid hv72
  clear cn720
  obtain ⟨v160, hv160⟩ : ∃ v : Int, ((numAt L 160 : Nat) : Int) = v := ⟨_, rfl⟩
  have cn1600 : ∀ W, BL W b o L → Calls Try.prog 44 #[.slice (some ⟨b, o, none⟩) len c, .int .i64 160] W fun e w' => e = .returned (.int .u64 ((numAt L 160 : Nat) : Int)) ∧ w' = W := fun W h => r19Number b o c L len hl 160 (by omega) hc hc2 hb256 W h
  rw [hv160] at cn1600
  have cn160 := Lib.hid cn1600
  replace hv160 := Lib.hid hv160
  clear cn1600
  obtain ⟨v168, hv168⟩ : ∃ v : Int, ((numAt L 168 : Nat) : Int) = v := ⟨_, rfl⟩
  have cn1680 : ∀ W, BL W b o L → Calls Try.prog 44 #[.slice (some ⟨b, o, none⟩) len c, .int .i64 168] W fun e w' => e = .returned (.int .u64 ((numAt L 168 : Nat) : Int)) ∧ w' = W := fun W h => r19Number b o c L len hl 168 (by omega) hc hc2 hb256 W h
  rw [hv168] at cn1680
  have cn168 := Lib.hid cn1680
  replace hv168 := Lib.hid hv168
  clear cn1680
  have hs24 : ∀ W, (Instr.slice 26 (.slice (some ⟨b, o, none⟩) len c) (some (.int .i64 24)) (some (.int .i64 32)) none).run Try.prog W = .ok (.slice (some ⟨b, o + 24, none⟩) 8 (c - 24)) W := fun W => slice_part b o len c 24 8 (by omega) (by omega) W
  have hs32 : ∀ W, (Instr.slice 26 (.slice (some ⟨b, o, none⟩) len c) (some (.int .i64 32)) (some (.int .i64 40)) none).run Try.prog W = .ok (.slice (some ⟨b, o + 32, none⟩) 8 (c - 32)) W := fun W => slice_part b o len c 32 8 (by omega) (by omega) W
  have hs80 : ∀ W, (Instr.slice 26 (.slice (some ⟨b, o, none⟩) len c) (some (.int .i64 80)) (some (.int .i64 88)) none).run Try.prog W = .ok (.slice (some ⟨b, o + 80, none⟩) 8 (c - 80)) W := fun W => slice_part b o len c 80 8 (by omega) (by omega) W
  have hs120 : ∀ W, (Instr.slice 26 (.slice (some ⟨b, o, none⟩) len c) (some (.int .i64 120)) (some (.int .i64 128)) none).run Try.prog W = .ok (.slice (some ⟨b, o + 120, none⟩) 8 (c - 120)) W := fun W => slice_part b o len c 120 8 (by omega) (by omega) W
  have hs88 : ∀ W, (Instr.slice 26 (.slice (some ⟨b, o, none⟩) len c) (some (.int .i64 88)) (some (.int .i64 120)) none).run Try.prog W = .ok (.slice (some ⟨b, o + 88, none⟩) 32 (c - 88)) W := fun W => slice_part b o len c 88 32 (by omega) (by omega) W
  have hs128 : ∀ W, (Instr.slice 26 (.slice (some ⟨b, o, none⟩) len c) (some (.int .i64 128)) (some (.int .i64 160)) none).run Try.prog W = .ok (.slice (some ⟨b, o + 128, none⟩) 32 (c - 128)) W := fun W => slice_part b o len c 128 32 (by omega) (by omega) W
  clear hF hBL hb256
  go_enter Try.func16, Try.ntmps16
  have undE := Try.underlying24
  have undT := Try.underlying37
  go_upto_region 1 with fail
  have H1 := Lib.hid ((HR.refl w).new zC 37)
  generalize w.alloc (.cells zC 37) = w1 at H1 ⊢
  generalize hb2 : w.heap.size = b2 at H1 ⊢
  have hbs := Lib.hid hb2
  clear hb2
  go_wp2_with fail
  refine (cSz.out _ (hSl.out _ H1.out.2)).mono ?_
  rintro e w' ⟨rfl, hw⟩
  rw [hw, if_pos (by rw [hlen.out]; exact hfit.out)]
  clear hw
  obtain ⟨p3, hp3⟩ : ∃ p : Int, ((posL L 3 : Nat) : Int) = p := ⟨_, rfl⟩
  rw [hp3]
  have p30 : 0 ≤ p3 := by omega
  have p31 : p3 ≤ 300 := by have := (posL_le L 3).1; omega
  replace hp3 := Lib.hid hp3
  have hth := Row.newThere w1 zC 37
  have hone : (#[.int .u64 v0, .int .u64 v8, .int .u64 v16, .int .u64 0, .int .u64 0, .int .u64 0, .int .u64 0, .int .u64 0, .int .u64 0, .int .u64 0, .int .u64 0, .int .u64 0, .int .u64 0, .int .u64 0, .slice none 0 0, .int .u64 0, .int .u64 0, .slice none 0 0, .int .u64 0, .int .u64 0, .bool false, .int .u64 0, .int .u64 0, .bool false, .int .u64 0, .int .u64 0, .bool false, .int .u64 0, .int .u64 0, .int .u64 0, .int .u64 0, .int .u64 0] : Array Value).all (·.oneCell') = true := by simp [Value.oneCell']
  go_upto_region 5 with (first | (go_at_call_of 44 (Value.int IntKind.i64 0); refine (cn0.out _ (hB.out _ H1.out.2)).mono ?_; rintro e w' ⟨rfl, hw⟩; rw [hw]; clear hw) | (go_at_call_of 44 (Value.int IntKind.i64 8); refine (cn8.out _ (hB.out _ H1.out.2)).mono ?_; rintro e w' ⟨rfl, hw⟩; rw [hw]; clear hw) | (go_at_call_of 44 (Value.int IntKind.i64 16); refine (cn16.out _ (hB.out _ H1.out.2)).mono ?_; rintro e w' ⟨rfl, hw⟩; rw [hw]; clear hw) | (refine wpList_store_mid rfl _ _ _ rfl w1.heap.size 0 #[.int .u64 v0, .int .u64 v8, .int .u64 v16, .int .u64 0, .int .u64 0, .int .u64 0, .int .u64 0, .int .u64 0, .int .u64 0, .int .u64 0, .int .u64 0, .int .u64 0, .int .u64 0, .int .u64 0, .slice none 0 0, .int .u64 0, .int .u64 0, .slice none 0 0, .int .u64 0, .int .u64 0, .bool false, .int .u64 0, .int .u64 0, .bool false, .int .u64 0, .int .u64 0, .bool false, .int .u64 0, .int .u64 0, .int .u64 0, .int .u64 0, .int .u64 0] rfl rfl hth sizTX hone ?_))
  have H4 := Lib.hid (H1.out.fill zC #[.int .u64 v0, .int .u64 v8, .int .u64 v16, .int .u64 0, .int .u64 0, .int .u64 0, .int .u64 0, .int .u64 0, .int .u64 0, .int .u64 0, .int .u64 0, .int .u64 0, .int .u64 0, .int .u64 0, .slice none 0 0, .int .u64 0, .int .u64 0, .slice none 0 0, .int .u64 0, .int .u64 0, .bool false, .int .u64 0, .int .u64 0, .bool false, .int .u64 0, .int .u64 0, .bool false, .int .u64 0, .int .u64 0, .int .u64 0, .int .u64 0, .int .u64 0] 37 rfl)
  have hd5 := Lib.hid (show b2 < w1.heap.size ∧ w.heap.size ≤ w1.heap.size from ⟨H1.out.lt (b := b2) (cs := zC) (t := 37) (by simp), H1.out.2.size⟩)
  clear hth hone
  generalize (w1.alloc (.cells zC 37)).setCells w1.heap.size 0 (#[.int .u64 v0, .int .u64 v8, .int .u64 v16, .int .u64 0, .int .u64 0, .int .u64 0, .int .u64 0, .int .u64 0, .int .u64 0, .int .u64 0, .int .u64 0, .int .u64 0, .int .u64 0, .int .u64 0, .slice none 0 0, .int .u64 0, .int .u64 0, .slice none 0 0, .int .u64 0, .int .u64 0, .bool false, .int .u64 0, .int .u64 0, .bool false, .int .u64 0, .int .u64 0, .bool false, .int .u64 0, .int .u64 0, .int .u64 0, .int .u64 0, .int .u64 0] : Array Value).toList = w4 at H4 ⊢
  generalize w1.heap.size = b5 at H4 hd5 ⊢
  clear H1
  go_wp2_with fail
  refine (r19Found b (o + 24) (c - 24) _ (b8_at (by rw [hlen.out]; omega) hbv.out) _ (bl_at (hB.out _ H4.out.2) 24 8 (by rw [hlen.out]; omega))).mono ?_
  rintro e w6 ⟨⟨ax, ay, fa, rfl, hf1, hf2⟩, hb⟩
  have fd7 : Hid (FdO (numAt L 24) ax ay fa) := Lib.hid ⟨hf1, hf2⟩
  have HA := Lib.hid (H4.out.next hb)
  have hd7 := Lib.hid (show b5 < w6.heap.size ∧ w.heap.size ≤ w6.heap.size from ⟨HA.out.lt (b := b5) (cs := #[.int .u64 v0, .int .u64 v8, .int .u64 v16, .int .u64 0, .int .u64 0, .int .u64 0, .int .u64 0, .int .u64 0, .int .u64 0, .int .u64 0, .int .u64 0, .int .u64 0, .int .u64 0, .int .u64 0, .slice none 0 0, .int .u64 0, .int .u64 0, .slice none 0 0, .int .u64 0, .int .u64 0, .bool false, .int .u64 0, .int .u64 0, .bool false, .int .u64 0, .int .u64 0, .bool false, .int .u64 0, .int .u64 0, .int .u64 0, .int .u64 0, .int .u64 0]) (t := 37) (by simp), HA.out.2.size⟩)
  have hth := Row.newThere w6 #[.int .u64 0, .int .u64 0] 24
  clear hf1 hf2 hb H4
  go_upto_region 7 with (refine wpList_store_mid rfl _ _ _ rfl w6.heap.size 0 #[.int .u64 ax, .int .u64 ay] rfl rfl hth sizED (one2 _ _) ?_)
  have H6 := Lib.hid (HA.out.fill #[.int .u64 0, .int .u64 0] #[.int .u64 ax, .int .u64 ay] 24 rfl)
  clear hth HA
  generalize (w6.alloc (.cells #[.int .u64 0, .int .u64 0] 24)).setCells w6.heap.size 0 (#[.int .u64 ax, .int .u64 ay] : Array Value).toList = ws7 at H6 ⊢
  generalize w6.heap.size = b7 at H6 hd7 ⊢
  go_wp2_with fail
  refine (r19Found b (o + 32) (c - 32) _ (b8_at (by rw [hlen.out]; omega) hbv.out) _ (bl_at (hB.out _ H6.out.2) 32 8 (by rw [hlen.out]; omega))).mono ?_
  rintro e w7 ⟨⟨cx, cy, fc, rfl, hf1, hf2⟩, hb⟩
  have fd9 : Hid (FdO (numAt L 32) cx cy fc) := Lib.hid ⟨hf1, hf2⟩
  have HA := Lib.hid (H6.out.next hb)
  have hd9 := Lib.hid (show b5 < w7.heap.size ∧ w.heap.size ≤ w7.heap.size from ⟨HA.out.lt (b := b5) (cs := #[.int .u64 v0, .int .u64 v8, .int .u64 v16, .int .u64 0, .int .u64 0, .int .u64 0, .int .u64 0, .int .u64 0, .int .u64 0, .int .u64 0, .int .u64 0, .int .u64 0, .int .u64 0, .int .u64 0, .slice none 0 0, .int .u64 0, .int .u64 0, .slice none 0 0, .int .u64 0, .int .u64 0, .bool false, .int .u64 0, .int .u64 0, .bool false, .int .u64 0, .int .u64 0, .bool false, .int .u64 0, .int .u64 0, .int .u64 0, .int .u64 0, .int .u64 0]) (t := 37) (by simp), HA.out.2.size⟩)
  have hth := Row.newThere w7 #[.int .u64 0, .int .u64 0] 24
  clear hf1 hf2 hb H6
  go_upto_region 8 with (refine wpList_store_mid rfl _ _ _ rfl w7.heap.size 0 #[.int .u64 cx, .int .u64 cy] rfl rfl hth sizED (one2 _ _) ?_)
  have H7 := Lib.hid (HA.out.fill #[.int .u64 0, .int .u64 0] #[.int .u64 cx, .int .u64 cy] 24 rfl)
  clear hth HA
  generalize (w7.alloc (.cells #[.int .u64 0, .int .u64 0] 24)).setCells w7.heap.size 0 (#[.int .u64 cx, .int .u64 cy] : Array Value).toList = ws9 at H7 ⊢
  generalize w7.heap.size = b9 at H7 hd9 ⊢
  have hr7 := H7.out.row (b := b7) (cs := #[.int .u64 ax, .int .u64 ay]) (t := 24) (by simp)
  have HP := Lib.hid (HR.sub (qs := [(b5, #[.int .u64 v0, .int .u64 v8, .int .u64 v16, .int .u64 0, .int .u64 0, .int .u64 0, .int .u64 0, .int .u64 0, .int .u64 0, .int .u64 0, .int .u64 0, .int .u64 0, .int .u64 0, .int .u64 0, .slice none 0 0, .int .u64 0, .int .u64 0, .slice none 0 0, .int .u64 0, .int .u64 0, .bool false, .int .u64 0, .int .u64 0, .bool false, .int .u64 0, .int .u64 0, .bool false, .int .u64 0, .int .u64 0, .int .u64 0, .int .u64 0, .int .u64 0], 37), (b9, #[.int .u64 cx, .int .u64 cy], 24), (b2, zC, 37)]) H7.out (by simp))
  have hth := (HP.out.row (b := b5) (cs := #[.int .u64 v0, .int .u64 v8, .int .u64 v16, .int .u64 0, .int .u64 0, .int .u64 0, .int .u64 0, .int .u64 0, .int .u64 0, .int .u64 0, .int .u64 0, .int .u64 0, .int .u64 0, .int .u64 0, .slice none 0 0, .int .u64 0, .int .u64 0, .slice none 0 0, .int .u64 0, .int .u64 0, .bool false, .int .u64 0, .int .u64 0, .bool false, .int .u64 0, .int .u64 0, .bool false, .int .u64 0, .int .u64 0, .int .u64 0, .int .u64 0, .int .u64 0]) (t := 37) (by simp)).thereMid 3 2 (by simp)
  go_upto_region 9 with (first | (refine wpList_load_row rfl _ _ rfl b7 rfl 24 #[.int .u64 ax, .int .u64 ay] (0, 0) _ hr7 undE rfl sizED ?_) | (refine wpList_store_mid rfl _ _ _ rfl b5 3 #[.int .u64 ax, .int .u64 ay] rfl rfl hth sizED (one2 _ _) ?_))
  have H8 : Hid (HR w _ [(b5, #[.int .u64 v0, .int .u64 v8, .int .u64 v16, .int .u64 ax, .int .u64 ay, .int .u64 0, .int .u64 0, .int .u64 0, .int .u64 0, .int .u64 0, .int .u64 0, .int .u64 0, .int .u64 0, .int .u64 0, .slice none 0 0, .int .u64 0, .int .u64 0, .slice none 0 0, .int .u64 0, .int .u64 0, .bool false, .int .u64 0, .int .u64 0, .bool false, .int .u64 0, .int .u64 0, .bool false, .int .u64 0, .int .u64 0, .int .u64 0, .int .u64 0, .int .u64 0], 37), (b9, #[.int .u64 cx, .int .u64 cy], 24), (b2, zC, 37)]) := Lib.hid (HR.putMany (cs' := #[.int .u64 v0, .int .u64 v8, .int .u64 v16, .int .u64 ax, .int .u64 ay, .int .u64 0, .int .u64 0, .int .u64 0, .int .u64 0, .int .u64 0, .int .u64 0, .int .u64 0, .int .u64 0, .int .u64 0, .slice none 0 0, .int .u64 0, .int .u64 0, .slice none 0 0, .int .u64 0, .int .u64 0, .bool false, .int .u64 0, .int .u64 0, .bool false, .int .u64 0, .int .u64 0, .bool false, .int .u64 0, .int .u64 0, .int .u64 0, .int .u64 0, .int .u64 0]) HP.out (by have := hd5.out; have := hd7.out; have := hd9.out; simp; omega) (by have := hd5.out; omega) (#[.int .u64 ax, .int .u64 ay] : Array Value).toList 3 (by simp) rfl)
  clear hth HP H7
  generalize ws9.setCells b5 3 (#[.int .u64 ax, .int .u64 ay] : Array Value).toList = w8 at H8 ⊢
  clear hr7
  have hr9 := H8.out.row (b := b9) (cs := #[.int .u64 cx, .int .u64 cy]) (t := 24) (by simp)
  have HP := Lib.hid (HR.sub (qs := [(b5, #[.int .u64 v0, .int .u64 v8, .int .u64 v16, .int .u64 ax, .int .u64 ay, .int .u64 0, .int .u64 0, .int .u64 0, .int .u64 0, .int .u64 0, .int .u64 0, .int .u64 0, .int .u64 0, .int .u64 0, .slice none 0 0, .int .u64 0, .int .u64 0, .slice none 0 0, .int .u64 0, .int .u64 0, .bool false, .int .u64 0, .int .u64 0, .bool false, .int .u64 0, .int .u64 0, .bool false, .int .u64 0, .int .u64 0, .int .u64 0, .int .u64 0, .int .u64 0], 37), (b2, zC, 37)]) H8.out (by simp))
  have hth := (HP.out.row (b := b5) (cs := #[.int .u64 v0, .int .u64 v8, .int .u64 v16, .int .u64 ax, .int .u64 ay, .int .u64 0, .int .u64 0, .int .u64 0, .int .u64 0, .int .u64 0, .int .u64 0, .int .u64 0, .int .u64 0, .int .u64 0, .slice none 0 0, .int .u64 0, .int .u64 0, .slice none 0 0, .int .u64 0, .int .u64 0, .bool false, .int .u64 0, .int .u64 0, .bool false, .int .u64 0, .int .u64 0, .bool false, .int .u64 0, .int .u64 0, .int .u64 0, .int .u64 0, .int .u64 0]) (t := 37) (by simp)).thereMid 5 2 (by simp)
  go_upto_region 10 with (first | (refine wpList_load_row rfl _ _ rfl b9 rfl 24 #[.int .u64 cx, .int .u64 cy] (0, 0) _ hr9 undE rfl sizED ?_) | (refine wpList_store_mid rfl _ _ _ rfl b5 5 #[.int .u64 cx, .int .u64 cy] rfl rfl hth sizED (one2 _ _) ?_))
  have H9 : Hid (HR w _ [(b5, #[.int .u64 v0, .int .u64 v8, .int .u64 v16, .int .u64 ax, .int .u64 ay, .int .u64 cx, .int .u64 cy, .int .u64 0, .int .u64 0, .int .u64 0, .int .u64 0, .int .u64 0, .int .u64 0, .int .u64 0, .slice none 0 0, .int .u64 0, .int .u64 0, .slice none 0 0, .int .u64 0, .int .u64 0, .bool false, .int .u64 0, .int .u64 0, .bool false, .int .u64 0, .int .u64 0, .bool false, .int .u64 0, .int .u64 0, .int .u64 0, .int .u64 0, .int .u64 0], 37), (b2, zC, 37)]) := Lib.hid (HR.putMany (cs' := #[.int .u64 v0, .int .u64 v8, .int .u64 v16, .int .u64 ax, .int .u64 ay, .int .u64 cx, .int .u64 cy, .int .u64 0, .int .u64 0, .int .u64 0, .int .u64 0, .int .u64 0, .int .u64 0, .int .u64 0, .slice none 0 0, .int .u64 0, .int .u64 0, .slice none 0 0, .int .u64 0, .int .u64 0, .bool false, .int .u64 0, .int .u64 0, .bool false, .int .u64 0, .int .u64 0, .bool false, .int .u64 0, .int .u64 0, .int .u64 0, .int .u64 0, .int .u64 0]) HP.out (by have := hd5.out; simp; omega) (by have := hd5.out; omega) (#[.int .u64 cx, .int .u64 cy] : Array Value).toList 5 (by simp) rfl)
  clear hth HP H8
  generalize w8.setCells b5 5 (#[.int .u64 cx, .int .u64 cy] : Array Value).toList = w9 at H9 ⊢
  clear hr9
  have ck := H9.out.cell (b := b5) (cs := #[.int .u64 v0, .int .u64 v8, .int .u64 v16, .int .u64 ax, .int .u64 ay, .int .u64 cx, .int .u64 cy, .int .u64 0, .int .u64 0, .int .u64 0, .int .u64 0, .int .u64 0, .int .u64 0, .int .u64 0, .slice none 0 0, .int .u64 0, .int .u64 0, .slice none 0 0, .int .u64 0, .int .u64 0, .bool false, .int .u64 0, .int .u64 0, .bool false, .int .u64 0, .int .u64 0, .bool false, .int .u64 0, .int .u64 0, .int .u64 0, .int .u64 0, .int .u64 0]) (t := 37) (by simp) 7 rfl
  have cf := H9.out.free (b := b5) (cs := #[.int .u64 v0, .int .u64 v8, .int .u64 v16, .int .u64 ax, .int .u64 ay, .int .u64 cx, .int .u64 cy, .int .u64 0, .int .u64 0, .int .u64 0, .int .u64 0, .int .u64 0, .int .u64 0, .int .u64 0, .slice none 0 0, .int .u64 0, .int .u64 0, .slice none 0 0, .int .u64 0, .int .u64 0, .bool false, .int .u64 0, .int .u64 0, .bool false, .int .u64 0, .int .u64 0, .bool false, .int .u64 0, .int .u64 0, .int .u64 0, .int .u64 0, .int .u64 0]) (t := 37) (by simp) 7
  go_upto_region 11 with (go_at_call_of 44 (Value.int IntKind.i64 40); refine (cn40.out _ (hB.out _ H9.out.2)).mono ?_; rintro e w' ⟨rfl, hw⟩; rw [hw]; clear hw)
  have H10 : Hid (HR w _ [(b5, #[.int .u64 v0, .int .u64 v8, .int .u64 v16, .int .u64 ax, .int .u64 ay, .int .u64 cx, .int .u64 cy, .int .u64 v40, .int .u64 0, .int .u64 0, .int .u64 0, .int .u64 0, .int .u64 0, .int .u64 0, .slice none 0 0, .int .u64 0, .int .u64 0, .slice none 0 0, .int .u64 0, .int .u64 0, .bool false, .int .u64 0, .int .u64 0, .bool false, .int .u64 0, .int .u64 0, .bool false, .int .u64 0, .int .u64 0, .int .u64 0, .int .u64 0, .int .u64 0], 37), (b2, zC, 37)]) := Lib.hid (HR.put H9.out (by have := hd5.out; simp; omega) (by have := hd5.out; omega) 7 (.int .u64 v40))
  clear ck cf H9
  generalize w9.setCell ⟨b5, 7, none⟩ (.int .u64 v40) = w10 at H10 ⊢
  have HP := Lib.hid (HR.sub (qs := [(b5, #[.int .u64 v0, .int .u64 v8, .int .u64 v16, .int .u64 ax, .int .u64 ay, .int .u64 cx, .int .u64 cy, .int .u64 v40, .int .u64 0, .int .u64 0, .int .u64 0, .int .u64 0, .int .u64 0, .int .u64 0, .slice none 0 0, .int .u64 0, .int .u64 0, .slice none 0 0, .int .u64 0, .int .u64 0, .bool false, .int .u64 0, .int .u64 0, .bool false, .int .u64 0, .int .u64 0, .bool false, .int .u64 0, .int .u64 0, .int .u64 0, .int .u64 0, .int .u64 0], 37), (b2, zC, 37)]) H10.out (by simp))
  have hth := (HP.out.row (b := b5) (cs := #[.int .u64 v0, .int .u64 v8, .int .u64 v16, .int .u64 ax, .int .u64 ay, .int .u64 cx, .int .u64 cy, .int .u64 v40, .int .u64 0, .int .u64 0, .int .u64 0, .int .u64 0, .int .u64 0, .int .u64 0, .slice none 0 0, .int .u64 0, .int .u64 0, .slice none 0 0, .int .u64 0, .int .u64 0, .bool false, .int .u64 0, .int .u64 0, .bool false, .int .u64 0, .int .u64 0, .bool false, .int .u64 0, .int .u64 0, .int .u64 0, .int .u64 0, .int .u64 0]) (t := 37) (by simp)).thereMid 8 2 (by simp)
  go_upto_region 12 with (first | (go_at_call_of 44 (Value.int IntKind.i64 48); refine (cn48.out _ (hB.out _ HP.out.2)).mono ?_; rintro e w' ⟨rfl, hw⟩; rw [hw]; clear hw) | (go_at_call_of 44 (Value.int IntKind.i64 56); refine (cn56.out _ (hB.out _ HP.out.2)).mono ?_; rintro e w' ⟨rfl, hw⟩; rw [hw]; clear hw) | (refine wpList_store_mid rfl _ _ _ rfl b5 8 #[.int .u64 v48, .int .u64 v56] rfl rfl hth sizA2 (one2 _ _) ?_))
  have H11 : Hid (HR w _ [(b5, #[.int .u64 v0, .int .u64 v8, .int .u64 v16, .int .u64 ax, .int .u64 ay, .int .u64 cx, .int .u64 cy, .int .u64 v40, .int .u64 v48, .int .u64 v56, .int .u64 0, .int .u64 0, .int .u64 0, .int .u64 0, .slice none 0 0, .int .u64 0, .int .u64 0, .slice none 0 0, .int .u64 0, .int .u64 0, .bool false, .int .u64 0, .int .u64 0, .bool false, .int .u64 0, .int .u64 0, .bool false, .int .u64 0, .int .u64 0, .int .u64 0, .int .u64 0, .int .u64 0], 37), (b2, zC, 37)]) := Lib.hid (HR.putMany (cs' := #[.int .u64 v0, .int .u64 v8, .int .u64 v16, .int .u64 ax, .int .u64 ay, .int .u64 cx, .int .u64 cy, .int .u64 v40, .int .u64 v48, .int .u64 v56, .int .u64 0, .int .u64 0, .int .u64 0, .int .u64 0, .slice none 0 0, .int .u64 0, .int .u64 0, .slice none 0 0, .int .u64 0, .int .u64 0, .bool false, .int .u64 0, .int .u64 0, .bool false, .int .u64 0, .int .u64 0, .bool false, .int .u64 0, .int .u64 0, .int .u64 0, .int .u64 0, .int .u64 0]) HP.out (by have := hd5.out; simp; omega) (by have := hd5.out; omega) (#[.int .u64 v48, .int .u64 v56] : Array Value).toList 8 (by simp) rfl)
  clear hth HP H10
  generalize w10.setCells b5 8 (#[.int .u64 v48, .int .u64 v56] : Array Value).toList = w11 at H11 ⊢
  have HP := Lib.hid (HR.sub (qs := [(b5, #[.int .u64 v0, .int .u64 v8, .int .u64 v16, .int .u64 ax, .int .u64 ay, .int .u64 cx, .int .u64 cy, .int .u64 v40, .int .u64 v48, .int .u64 v56, .int .u64 0, .int .u64 0, .int .u64 0, .int .u64 0, .slice none 0 0, .int .u64 0, .int .u64 0, .slice none 0 0, .int .u64 0, .int .u64 0, .bool false, .int .u64 0, .int .u64 0, .bool false, .int .u64 0, .int .u64 0, .bool false, .int .u64 0, .int .u64 0, .int .u64 0, .int .u64 0, .int .u64 0], 37), (b2, zC, 37)]) H11.out (by simp))
  have hth := (HP.out.row (b := b5) (cs := #[.int .u64 v0, .int .u64 v8, .int .u64 v16, .int .u64 ax, .int .u64 ay, .int .u64 cx, .int .u64 cy, .int .u64 v40, .int .u64 v48, .int .u64 v56, .int .u64 0, .int .u64 0, .int .u64 0, .int .u64 0, .slice none 0 0, .int .u64 0, .int .u64 0, .slice none 0 0, .int .u64 0, .int .u64 0, .bool false, .int .u64 0, .int .u64 0, .bool false, .int .u64 0, .int .u64 0, .bool false, .int .u64 0, .int .u64 0, .int .u64 0, .int .u64 0, .int .u64 0]) (t := 37) (by simp)).thereMid 10 2 (by simp)
  go_upto_region 13 with (first | (go_at_call_of 44 (Value.int IntKind.i64 64); refine (cn64.out _ (hB.out _ HP.out.2)).mono ?_; rintro e w' ⟨rfl, hw⟩; rw [hw]; clear hw) | (go_at_call_of 44 (Value.int IntKind.i64 72); refine (cn72.out _ (hB.out _ HP.out.2)).mono ?_; rintro e w' ⟨rfl, hw⟩; rw [hw]; clear hw) | (refine wpList_store_mid rfl _ _ _ rfl b5 10 #[.int .u64 v64, .int .u64 v72] rfl rfl hth sizA2 (one2 _ _) ?_))
  have H12 : Hid (HR w _ [(b5, #[.int .u64 v0, .int .u64 v8, .int .u64 v16, .int .u64 ax, .int .u64 ay, .int .u64 cx, .int .u64 cy, .int .u64 v40, .int .u64 v48, .int .u64 v56, .int .u64 v64, .int .u64 v72, .int .u64 0, .int .u64 0, .slice none 0 0, .int .u64 0, .int .u64 0, .slice none 0 0, .int .u64 0, .int .u64 0, .bool false, .int .u64 0, .int .u64 0, .bool false, .int .u64 0, .int .u64 0, .bool false, .int .u64 0, .int .u64 0, .int .u64 0, .int .u64 0, .int .u64 0], 37), (b2, zC, 37)]) := Lib.hid (HR.putMany (cs' := #[.int .u64 v0, .int .u64 v8, .int .u64 v16, .int .u64 ax, .int .u64 ay, .int .u64 cx, .int .u64 cy, .int .u64 v40, .int .u64 v48, .int .u64 v56, .int .u64 v64, .int .u64 v72, .int .u64 0, .int .u64 0, .slice none 0 0, .int .u64 0, .int .u64 0, .slice none 0 0, .int .u64 0, .int .u64 0, .bool false, .int .u64 0, .int .u64 0, .bool false, .int .u64 0, .int .u64 0, .bool false, .int .u64 0, .int .u64 0, .int .u64 0, .int .u64 0, .int .u64 0]) HP.out (by have := hd5.out; simp; omega) (by have := hd5.out; omega) (#[.int .u64 v64, .int .u64 v72] : Array Value).toList 10 (by simp) rfl)
  clear hth HP H11
  generalize w11.setCells b5 10 (#[.int .u64 v64, .int .u64 v72] : Array Value).toList = w12 at H12 ⊢
  go_upto_region 14 with fail
  go_loopw [6, 11] (fun q1 q2 wr => ∃ (j : Nat) (fb : Bool) (p0 q0 p1 q1' : Int) (S0 S1 : Value), j ≤ 2 ∧ q1 = .bool fb ∧ q2 = .int .i64 (j : Int) ∧ Hid (NtI L b o c j fb p0 q0 S0 p1 q1' S1) ∧ Hid (HR w wr [(b5, #[.int .u64 v0, .int .u64 v8, .int .u64 v16, .int .u64 ax, .int .u64 ay, .int .u64 cx, .int .u64 cy, .int .u64 v40, .int .u64 v48, .int .u64 v56, .int .u64 v64, .int .u64 v72, .int .u64 p0, .int .u64 q0, S0, .int .u64 p1, .int .u64 q1', S1, .int .u64 0, .int .u64 0, .bool false, .int .u64 0, .int .u64 0, .bool false, .int .u64 0, .int .u64 0, .bool false, .int .u64 0, .int .u64 0, .int .u64 0, .int .u64 0, .int .u64 0], 37), (b2, zC, 37)])) (fun _ q2 _ => (2 - intOf q2).toNat)
  case atStart => exact ⟨0, true, 0, 0, 0, 0, .slice none 0 0, .slice none 0 0, by omega, rfl, rfl, Lib.hid ⟨rfl, rfl, rfl, rfl, rfl, rfl, rfl⟩, H12⟩
  case round =>
    clear H12
    obtain ⟨j, fb, p0, q0, p1, q1, S0, S1, hj, rfl, rfl, hNt, HL⟩ := hrel
    rcases (by omega : j = 0 ∨ j = 1 ∨ j = 2) with rfl | rfl | rfl
    · obtain ⟨rfl, rfl, rfl, rfl, rfl, rfl, rfl⟩ := hNt.out
      clear hNt
      go_wp2_with fail
      refine (r19Found b (o + 80) (c - 80) _ (b8_at (by rw [hlen.out]; omega) hbv.out) _ (bl_at (hB.out _ HL.out.2) 80 8 (by rw [hlen.out]; omega))).mono ?_
      rintro e wf ⟨⟨nX, nY, fn, rfl, hf1, hf2⟩, hb⟩
      have fd12 : Hid (FdO (numAt L 80) nX nY fn) := Lib.hid ⟨hf1, hf2⟩
      have HA := Lib.hid (HL.out.next hb)
      have hd12 := Lib.hid (show b5 < wf.heap.size ∧ w.heap.size ≤ wf.heap.size from ⟨HA.out.lt (b := b5) (cs := #[.int .u64 v0, .int .u64 v8, .int .u64 v16, .int .u64 ax, .int .u64 ay, .int .u64 cx, .int .u64 cy, .int .u64 v40, .int .u64 v48, .int .u64 v56, .int .u64 v64, .int .u64 v72, .int .u64 0, .int .u64 0, .slice none 0 0, .int .u64 0, .int .u64 0, .slice none 0 0, .int .u64 0, .int .u64 0, .bool false, .int .u64 0, .int .u64 0, .bool false, .int .u64 0, .int .u64 0, .bool false, .int .u64 0, .int .u64 0, .int .u64 0, .int .u64 0, .int .u64 0]) (t := 37) (by simp), HA.out.2.size⟩)
      have hth := Row.newThere wf #[.int .u64 0, .int .u64 0] 24
      clear hf1 hf2 hb HL
      go_upto_region 17 with (refine wpList_store_mid rfl _ _ _ rfl wf.heap.size 0 #[.int .u64 nX, .int .u64 nY] rfl rfl hth sizED (one2 _ _) ?_)
      have HF := Lib.hid (HA.out.fill #[.int .u64 0, .int .u64 0] #[.int .u64 nX, .int .u64 nY] 24 rfl)
      clear hth HA
      generalize (wf.alloc (.cells #[.int .u64 0, .int .u64 0] 24)).setCells wf.heap.size 0 (#[.int .u64 nX, .int .u64 nY] : Array Value).toList = ws12 at HF ⊢
      generalize wf.heap.size = b12 at HF hd12 ⊢
      have HQ := Lib.hid (HR.sub (qs := [(b12, #[.int .u64 nX, .int .u64 nY], 24), (b2, zC, 37)]) HF.out (by simp))
      have HF' := Lib.hid (HR.sub (qs := [(b5, #[.int .u64 v0, .int .u64 v8, .int .u64 v16, .int .u64 ax, .int .u64 ay, .int .u64 cx, .int .u64 cy, .int .u64 v40, .int .u64 v48, .int .u64 v56, .int .u64 v64, .int .u64 v72, .int .u64 0, .int .u64 0, .slice none 0 0, .int .u64 0, .int .u64 0, .slice none 0 0, .int .u64 0, .int .u64 0, .bool false, .int .u64 0, .int .u64 0, .bool false, .int .u64 0, .int .u64 0, .bool false, .int .u64 0, .int .u64 0, .int .u64 0, .int .u64 0, .int .u64 0], 37), (b2, zC, 37)]) HF.out (by simp))
      clear HF
      go_upto_region 18 with fail
      have z0 : IntKind.i64.wrap 0 = 0 := by decide
      have z88 : IntKind.i64.wrap 88 = 88 := by decide
      have z120 : IntKind.i64.wrap 120 = 120 := by decide
      refine wp_region_noPanic ?_
      refine wp_region_held_drew (S := fun wq => wq.cell? ⟨b12, 0, none⟩ = some (.int .u64 nX) ∧ wq.cell? ⟨b12, 1, none⟩ = some (.int .u64 nY) ∧ HR w wq [(b12, #[.int .u64 nX, .int .u64 nY], 24), (b2, zC, 37)]) (by kernel_rfl) ?_ (fun hHeld => ?_)
      · exact ⟨HR.cell (HR.drew HQ.out) (b := b12) (cs := #[.int .u64 nX, .int .u64 nY]) (t := 24) (by simp) 0 rfl, HR.cell (HR.drew HQ.out) (b := b12) (cs := #[.int .u64 nX, .int .u64 nY]) (t := 24) (by simp) 1 rfl, HR.drew HQ.out⟩
      refine tk 0 hHeld ?_; refine tk 1 hHeld ?_; refine tk 2 hHeld ?_; refine tk 3 hHeld ?_; refine tk 4 hHeld ?_; refine tk 5 hHeld ?_; refine tk 6 hHeld ?_; refine tk 7 hHeld ?_; refine tk 8 hHeld ?_; refine tk 9 hHeld ?_; refine tk 10 hHeld ?_; refine tk 11 hHeld ?_; refine tk 12 hHeld ?_
      have HX := HR.drew HF'.out
      have hth := (HX.row (b := b5) (cs := #[.int .u64 v0, .int .u64 v8, .int .u64 v16, .int .u64 ax, .int .u64 ay, .int .u64 cx, .int .u64 cy, .int .u64 v40, .int .u64 v48, .int .u64 v56, .int .u64 v64, .int .u64 v72, .int .u64 0, .int .u64 0, .slice none 0 0, .int .u64 0, .int .u64 0, .slice none 0 0, .int .u64 0, .int .u64 0, .bool false, .int .u64 0, .int .u64 0, .bool false, .int .u64 0, .int .u64 0, .bool false, .int .u64 0, .int .u64 0, .int .u64 0, .int .u64 0, .int .u64 0]) (t := 37) (by simp)).thereMid 12 3 (by simp)
      refine stepH 13 (by kernel_rfl) rfl (by rfl) ?_
      intro K hK
      refine wp_store_mid 28 _ _ rfl b5 12 #[.int .u64 nX, .int .u64 nY, .slice (some ⟨b, o + 88, none⟩) 32 (c - 88)] rfl rfl hth sizSE (one3s _ _ _ _ _) ?_
      refine hK.out _ _ ?_ (fun hHeld => ?_)
      · exact ⟨HR.cell (HR.otherMany (D := b5) (by have := hd5.out; have := hd12.out; simp; omega) (by have := hd5.out; omega) (#[.int .u64 nX, .int .u64 nY, .slice (some ⟨b, o + 88, none⟩) 32 (c - 88)] : Array Value).toList 12 _ hHeld.2.2) (b := b12) (cs := #[.int .u64 nX, .int .u64 nY]) (t := 24) (by simp) 0 rfl, HR.cell (HR.otherMany (D := b5) (by have := hd5.out; have := hd12.out; simp; omega) (by have := hd5.out; omega) (#[.int .u64 nX, .int .u64 nY, .slice (some ⟨b, o + 88, none⟩) 32 (c - 88)] : Array Value).toList 12 _ hHeld.2.2) (b := b12) (cs := #[.int .u64 nX, .int .u64 nY]) (t := 24) (by simp) 1 rfl, (HR.otherMany (D := b5) (by have := hd5.out; have := hd12.out; simp; omega) (by have := hd5.out; omega) (#[.int .u64 nX, .int .u64 nY, .slice (some ⟨b, o + 88, none⟩) 32 (c - 88)] : Array Value).toList 12 _ hHeld.2.2)⟩
      clear hK K
      try simp only [Act.put, List.setIfInBounds_toArray, List.set_cons_zero, List.set_cons_succ]
      refine wpAnyH_done (by kernel_rfl) (NoPanic.normal ?_) _
      clear z0 z88 z120
      have HN : Hid (HR w _ [(b5, #[.int .u64 v0, .int .u64 v8, .int .u64 v16, .int .u64 ax, .int .u64 ay, .int .u64 cx, .int .u64 cy, .int .u64 v40, .int .u64 v48, .int .u64 v56, .int .u64 v64, .int .u64 v72, .int .u64 nX, .int .u64 nY, .slice (some ⟨b, o + 88, none⟩) 32 (c - 88), .int .u64 0, .int .u64 0, .slice none 0 0, .int .u64 0, .int .u64 0, .bool false, .int .u64 0, .int .u64 0, .bool false, .int .u64 0, .int .u64 0, .bool false, .int .u64 0, .int .u64 0, .int .u64 0, .int .u64 0, .int .u64 0], 37), (b2, zC, 37)]) := Lib.hid (HR.putMany (cs' := #[.int .u64 v0, .int .u64 v8, .int .u64 v16, .int .u64 ax, .int .u64 ay, .int .u64 cx, .int .u64 cy, .int .u64 v40, .int .u64 v48, .int .u64 v56, .int .u64 v64, .int .u64 v72, .int .u64 nX, .int .u64 nY, .slice (some ⟨b, o + 88, none⟩) 32 (c - 88), .int .u64 0, .int .u64 0, .slice none 0 0, .int .u64 0, .int .u64 0, .bool false, .int .u64 0, .int .u64 0, .bool false, .int .u64 0, .int .u64 0, .bool false, .int .u64 0, .int .u64 0, .int .u64 0, .int .u64 0, .int .u64 0]) HX (by have := hd5.out; simp; omega) (by have := hd5.out; omega) (#[.int .u64 nX, .int .u64 nY, .slice (some ⟨b, o + 88, none⟩) 32 (c - 88)] : Array Value).toList 12 (by simp) rfl)
      clear hHeld HX HQ HF' hth
      generalize ws12.drew.setCells b5 12 (#[.int .u64 nX, .int .u64 nY, .slice (some ⟨b, o + 88, none⟩) 32 (c - 88)] : Array Value).toList = wn at HN ⊢
      go_wp2_with fail
      go_roundw
      case rel => exact ⟨1, fn, nX, nY, 0, 0, _, _, by omega, rfl, rfl, Lib.hid ⟨fd12.out, rfl, rfl, rfl, rfl⟩, HN⟩
      case measure => simp [intOf]
    · obtain ⟨hF0', rfl, rfl, rfl, rfl⟩ := hNt.out
      have hF0 := Lib.hid hF0'
      clear hF0'
      clear hNt
      go_wp2_with fail
      refine (r19Found b (o + 120) (c - 120) _ (b8_at (by rw [hlen.out]; omega) hbv.out) _ (bl_at (hB.out _ HL.out.2) 120 8 (by rw [hlen.out]; omega))).mono ?_
      rintro e wf ⟨⟨nX, nY, fn, rfl, hf1, hf2⟩, hb⟩
      have fd12 : Hid (FdO (numAt L 120) nX nY fn) := Lib.hid ⟨hf1, hf2⟩
      have HA := Lib.hid (HL.out.next hb)
      have hd12 := Lib.hid (show b5 < wf.heap.size ∧ w.heap.size ≤ wf.heap.size from ⟨HA.out.lt (b := b5) (cs := #[.int .u64 v0, .int .u64 v8, .int .u64 v16, .int .u64 ax, .int .u64 ay, .int .u64 cx, .int .u64 cy, .int .u64 v40, .int .u64 v48, .int .u64 v56, .int .u64 v64, .int .u64 v72, .int .u64 p0, .int .u64 q0, .slice (some ⟨b, o + 88, none⟩) 32 (c - 88), .int .u64 0, .int .u64 0, .slice none 0 0, .int .u64 0, .int .u64 0, .bool false, .int .u64 0, .int .u64 0, .bool false, .int .u64 0, .int .u64 0, .bool false, .int .u64 0, .int .u64 0, .int .u64 0, .int .u64 0, .int .u64 0]) (t := 37) (by simp), HA.out.2.size⟩)
      have hth := Row.newThere wf #[.int .u64 0, .int .u64 0] 24
      clear hf1 hf2 hb HL
      go_upto_region 17 with (refine wpList_store_mid rfl _ _ _ rfl wf.heap.size 0 #[.int .u64 nX, .int .u64 nY] rfl rfl hth sizED (one2 _ _) ?_)
      have HF := Lib.hid (HA.out.fill #[.int .u64 0, .int .u64 0] #[.int .u64 nX, .int .u64 nY] 24 rfl)
      clear hth HA
      generalize (wf.alloc (.cells #[.int .u64 0, .int .u64 0] 24)).setCells wf.heap.size 0 (#[.int .u64 nX, .int .u64 nY] : Array Value).toList = ws12 at HF ⊢
      generalize wf.heap.size = b12 at HF hd12 ⊢
      cases fb
      · have HQ := Lib.hid (HR.sub (qs := [(b12, #[.int .u64 nX, .int .u64 nY], 24), (b2, zC, 37)]) HF.out (by simp))
        have HF' := Lib.hid (HR.sub (qs := [(b5, #[.int .u64 v0, .int .u64 v8, .int .u64 v16, .int .u64 ax, .int .u64 ay, .int .u64 cx, .int .u64 cy, .int .u64 v40, .int .u64 v48, .int .u64 v56, .int .u64 v64, .int .u64 v72, .int .u64 p0, .int .u64 q0, .slice (some ⟨b, o + 88, none⟩) 32 (c - 88), .int .u64 0, .int .u64 0, .slice none 0 0, .int .u64 0, .int .u64 0, .bool false, .int .u64 0, .int .u64 0, .bool false, .int .u64 0, .int .u64 0, .bool false, .int .u64 0, .int .u64 0, .int .u64 0, .int .u64 0, .int .u64 0], 37), (b2, zC, 37)]) HF.out (by simp))
        clear HF
        go_upto_region 18 with fail
        have z40 : IntKind.i64.wrap 40 = 40 := by decide
        have z128 : IntKind.i64.wrap 128 = 128 := by decide
        have z160 : IntKind.i64.wrap 160 = 160 := by decide
        refine wp_region_noPanic ?_
        refine wp_region_held_drew (S := fun wq => wq.cell? ⟨b12, 0, none⟩ = some (.int .u64 nX) ∧ wq.cell? ⟨b12, 1, none⟩ = some (.int .u64 nY) ∧ HR w wq [(b12, #[.int .u64 nX, .int .u64 nY], 24), (b2, zC, 37)]) (by kernel_rfl) ?_ (fun hHeld => ?_)
        · exact ⟨HR.cell (HR.drew HQ.out) (b := b12) (cs := #[.int .u64 nX, .int .u64 nY]) (t := 24) (by simp) 0 rfl, HR.cell (HR.drew HQ.out) (b := b12) (cs := #[.int .u64 nX, .int .u64 nY]) (t := 24) (by simp) 1 rfl, HR.drew HQ.out⟩
        refine tk 0 hHeld ?_; refine tk 1 hHeld ?_; refine tk 2 hHeld ?_; refine tk 3 hHeld ?_; refine tk 4 hHeld ?_; refine tk 5 hHeld ?_; refine tk 6 hHeld ?_; refine tk 7 hHeld ?_; refine tk 8 hHeld ?_; refine tk 9 hHeld ?_; refine tk 10 hHeld ?_; refine tk 11 hHeld ?_; refine tk 12 hHeld ?_
        have HX := HR.drew HF'.out
        have hth := (HX.row (b := b5) (cs := #[.int .u64 v0, .int .u64 v8, .int .u64 v16, .int .u64 ax, .int .u64 ay, .int .u64 cx, .int .u64 cy, .int .u64 v40, .int .u64 v48, .int .u64 v56, .int .u64 v64, .int .u64 v72, .int .u64 p0, .int .u64 q0, .slice (some ⟨b, o + 88, none⟩) 32 (c - 88), .int .u64 0, .int .u64 0, .slice none 0 0, .int .u64 0, .int .u64 0, .bool false, .int .u64 0, .int .u64 0, .bool false, .int .u64 0, .int .u64 0, .bool false, .int .u64 0, .int .u64 0, .int .u64 0, .int .u64 0, .int .u64 0]) (t := 37) (by simp)).thereMid 15 3 (by simp)
        refine stepH 13 (by kernel_rfl) rfl (by rfl) ?_
        intro K hK
        refine wp_store_mid 28 _ _ rfl b5 15 #[.int .u64 nX, .int .u64 nY, .slice (some ⟨b, o + 128, none⟩) 32 (c - 128)] rfl rfl hth sizSE (one3s _ _ _ _ _) ?_
        refine hK.out _ _ ?_ (fun hHeld => ?_)
        · exact ⟨HR.cell (HR.otherMany (D := b5) (by have := hd5.out; have := hd12.out; simp; omega) (by have := hd5.out; omega) (#[.int .u64 nX, .int .u64 nY, .slice (some ⟨b, o + 128, none⟩) 32 (c - 128)] : Array Value).toList 15 _ hHeld.2.2) (b := b12) (cs := #[.int .u64 nX, .int .u64 nY]) (t := 24) (by simp) 0 rfl, HR.cell (HR.otherMany (D := b5) (by have := hd5.out; have := hd12.out; simp; omega) (by have := hd5.out; omega) (#[.int .u64 nX, .int .u64 nY, .slice (some ⟨b, o + 128, none⟩) 32 (c - 128)] : Array Value).toList 15 _ hHeld.2.2) (b := b12) (cs := #[.int .u64 nX, .int .u64 nY]) (t := 24) (by simp) 1 rfl, (HR.otherMany (D := b5) (by have := hd5.out; have := hd12.out; simp; omega) (by have := hd5.out; omega) (#[.int .u64 nX, .int .u64 nY, .slice (some ⟨b, o + 128, none⟩) 32 (c - 128)] : Array Value).toList 15 _ hHeld.2.2)⟩
        clear hK K
        try simp only [Act.put, List.setIfInBounds_toArray, List.set_cons_zero, List.set_cons_succ]
        refine wpAnyH_done (by kernel_rfl) (NoPanic.normal ?_) _
        clear z40 z128 z160
        have HN : Hid (HR w _ [(b5, #[.int .u64 v0, .int .u64 v8, .int .u64 v16, .int .u64 ax, .int .u64 ay, .int .u64 cx, .int .u64 cy, .int .u64 v40, .int .u64 v48, .int .u64 v56, .int .u64 v64, .int .u64 v72, .int .u64 p0, .int .u64 q0, .slice (some ⟨b, o + 88, none⟩) 32 (c - 88), .int .u64 nX, .int .u64 nY, .slice (some ⟨b, o + 128, none⟩) 32 (c - 128), .int .u64 0, .int .u64 0, .bool false, .int .u64 0, .int .u64 0, .bool false, .int .u64 0, .int .u64 0, .bool false, .int .u64 0, .int .u64 0, .int .u64 0, .int .u64 0, .int .u64 0], 37), (b2, zC, 37)]) := Lib.hid (HR.putMany (cs' := #[.int .u64 v0, .int .u64 v8, .int .u64 v16, .int .u64 ax, .int .u64 ay, .int .u64 cx, .int .u64 cy, .int .u64 v40, .int .u64 v48, .int .u64 v56, .int .u64 v64, .int .u64 v72, .int .u64 p0, .int .u64 q0, .slice (some ⟨b, o + 88, none⟩) 32 (c - 88), .int .u64 nX, .int .u64 nY, .slice (some ⟨b, o + 128, none⟩) 32 (c - 128), .int .u64 0, .int .u64 0, .bool false, .int .u64 0, .int .u64 0, .bool false, .int .u64 0, .int .u64 0, .bool false, .int .u64 0, .int .u64 0, .int .u64 0, .int .u64 0, .int .u64 0]) HX (by have := hd5.out; simp; omega) (by have := hd5.out; omega) (#[.int .u64 nX, .int .u64 nY, .slice (some ⟨b, o + 128, none⟩) 32 (c - 128)] : Array Value).toList 15 (by simp) rfl)
        clear hHeld HX HQ HF' hth
        generalize ws12.drew.setCells b5 15 (#[.int .u64 nX, .int .u64 nY, .slice (some ⟨b, o + 128, none⟩) 32 (c - 128)] : Array Value).toList = wn at HN ⊢
        go_wp2_with fail
        go_roundw
        case rel => exact ⟨2, false, p0, q0, nX, nY, _, _, by omega, rfl, rfl, Lib.hid ⟨false, fn, rfl, hF0.out, fd12.out, rfl, rfl⟩, HN⟩
        case measure => simp [intOf]
      · have HQ := Lib.hid (HR.sub (qs := [(b12, #[.int .u64 nX, .int .u64 nY], 24), (b2, zC, 37)]) HF.out (by simp))
        have HF' := Lib.hid (HR.sub (qs := [(b5, #[.int .u64 v0, .int .u64 v8, .int .u64 v16, .int .u64 ax, .int .u64 ay, .int .u64 cx, .int .u64 cy, .int .u64 v40, .int .u64 v48, .int .u64 v56, .int .u64 v64, .int .u64 v72, .int .u64 p0, .int .u64 q0, .slice (some ⟨b, o + 88, none⟩) 32 (c - 88), .int .u64 0, .int .u64 0, .slice none 0 0, .int .u64 0, .int .u64 0, .bool false, .int .u64 0, .int .u64 0, .bool false, .int .u64 0, .int .u64 0, .bool false, .int .u64 0, .int .u64 0, .int .u64 0, .int .u64 0, .int .u64 0], 37), (b2, zC, 37)]) HF.out (by simp))
        clear HF
        go_upto_region 18 with fail
        have z40 : IntKind.i64.wrap 40 = 40 := by decide
        have z128 : IntKind.i64.wrap 128 = 128 := by decide
        have z160 : IntKind.i64.wrap 160 = 160 := by decide
        refine wp_region_noPanic ?_
        refine wp_region_held_drew (S := fun wq => wq.cell? ⟨b12, 0, none⟩ = some (.int .u64 nX) ∧ wq.cell? ⟨b12, 1, none⟩ = some (.int .u64 nY) ∧ HR w wq [(b12, #[.int .u64 nX, .int .u64 nY], 24), (b2, zC, 37)]) (by kernel_rfl) ?_ (fun hHeld => ?_)
        · exact ⟨HR.cell (HR.drew HQ.out) (b := b12) (cs := #[.int .u64 nX, .int .u64 nY]) (t := 24) (by simp) 0 rfl, HR.cell (HR.drew HQ.out) (b := b12) (cs := #[.int .u64 nX, .int .u64 nY]) (t := 24) (by simp) 1 rfl, HR.drew HQ.out⟩
        refine tk 0 hHeld ?_; refine tk 1 hHeld ?_; refine tk 2 hHeld ?_; refine tk 3 hHeld ?_; refine tk 4 hHeld ?_; refine tk 5 hHeld ?_; refine tk 6 hHeld ?_; refine tk 7 hHeld ?_; refine tk 8 hHeld ?_; refine tk 9 hHeld ?_; refine tk 10 hHeld ?_; refine tk 11 hHeld ?_; refine tk 12 hHeld ?_
        have HX := HR.drew HF'.out
        have hth := (HX.row (b := b5) (cs := #[.int .u64 v0, .int .u64 v8, .int .u64 v16, .int .u64 ax, .int .u64 ay, .int .u64 cx, .int .u64 cy, .int .u64 v40, .int .u64 v48, .int .u64 v56, .int .u64 v64, .int .u64 v72, .int .u64 p0, .int .u64 q0, .slice (some ⟨b, o + 88, none⟩) 32 (c - 88), .int .u64 0, .int .u64 0, .slice none 0 0, .int .u64 0, .int .u64 0, .bool false, .int .u64 0, .int .u64 0, .bool false, .int .u64 0, .int .u64 0, .bool false, .int .u64 0, .int .u64 0, .int .u64 0, .int .u64 0, .int .u64 0]) (t := 37) (by simp)).thereMid 15 3 (by simp)
        refine stepH 13 (by kernel_rfl) rfl (by rfl) ?_
        intro K hK
        refine wp_store_mid 28 _ _ rfl b5 15 #[.int .u64 nX, .int .u64 nY, .slice (some ⟨b, o + 128, none⟩) 32 (c - 128)] rfl rfl hth sizSE (one3s _ _ _ _ _) ?_
        refine hK.out _ _ ?_ (fun hHeld => ?_)
        · exact ⟨HR.cell (HR.otherMany (D := b5) (by have := hd5.out; have := hd12.out; simp; omega) (by have := hd5.out; omega) (#[.int .u64 nX, .int .u64 nY, .slice (some ⟨b, o + 128, none⟩) 32 (c - 128)] : Array Value).toList 15 _ hHeld.2.2) (b := b12) (cs := #[.int .u64 nX, .int .u64 nY]) (t := 24) (by simp) 0 rfl, HR.cell (HR.otherMany (D := b5) (by have := hd5.out; have := hd12.out; simp; omega) (by have := hd5.out; omega) (#[.int .u64 nX, .int .u64 nY, .slice (some ⟨b, o + 128, none⟩) 32 (c - 128)] : Array Value).toList 15 _ hHeld.2.2) (b := b12) (cs := #[.int .u64 nX, .int .u64 nY]) (t := 24) (by simp) 1 rfl, (HR.otherMany (D := b5) (by have := hd5.out; have := hd12.out; simp; omega) (by have := hd5.out; omega) (#[.int .u64 nX, .int .u64 nY, .slice (some ⟨b, o + 128, none⟩) 32 (c - 128)] : Array Value).toList 15 _ hHeld.2.2)⟩
        clear hK K
        try simp only [Act.put, List.setIfInBounds_toArray, List.set_cons_zero, List.set_cons_succ]
        refine wpAnyH_done (by kernel_rfl) (NoPanic.normal ?_) _
        clear z40 z128 z160
        have HN : Hid (HR w _ [(b5, #[.int .u64 v0, .int .u64 v8, .int .u64 v16, .int .u64 ax, .int .u64 ay, .int .u64 cx, .int .u64 cy, .int .u64 v40, .int .u64 v48, .int .u64 v56, .int .u64 v64, .int .u64 v72, .int .u64 p0, .int .u64 q0, .slice (some ⟨b, o + 88, none⟩) 32 (c - 88), .int .u64 nX, .int .u64 nY, .slice (some ⟨b, o + 128, none⟩) 32 (c - 128), .int .u64 0, .int .u64 0, .bool false, .int .u64 0, .int .u64 0, .bool false, .int .u64 0, .int .u64 0, .bool false, .int .u64 0, .int .u64 0, .int .u64 0, .int .u64 0, .int .u64 0], 37), (b2, zC, 37)]) := Lib.hid (HR.putMany (cs' := #[.int .u64 v0, .int .u64 v8, .int .u64 v16, .int .u64 ax, .int .u64 ay, .int .u64 cx, .int .u64 cy, .int .u64 v40, .int .u64 v48, .int .u64 v56, .int .u64 v64, .int .u64 v72, .int .u64 p0, .int .u64 q0, .slice (some ⟨b, o + 88, none⟩) 32 (c - 88), .int .u64 nX, .int .u64 nY, .slice (some ⟨b, o + 128, none⟩) 32 (c - 128), .int .u64 0, .int .u64 0, .bool false, .int .u64 0, .int .u64 0, .bool false, .int .u64 0, .int .u64 0, .bool false, .int .u64 0, .int .u64 0, .int .u64 0, .int .u64 0, .int .u64 0]) HX (by have := hd5.out; simp; omega) (by have := hd5.out; omega) (#[.int .u64 nX, .int .u64 nY, .slice (some ⟨b, o + 128, none⟩) 32 (c - 128)] : Array Value).toList 15 (by simp) rfl)
        clear hHeld HX HQ HF' hth
        generalize ws12.drew.setCells b5 15 (#[.int .u64 nX, .int .u64 nY, .slice (some ⟨b, o + 128, none⟩) 32 (c - 128)] : Array Value).toList = wn at HN ⊢
        go_wp2_with fail
        go_roundw
        case rel => exact ⟨2, fn, p0, q0, nX, nY, _, _, by omega, rfl, rfl, Lib.hid ⟨true, fn, rfl, hF0.out, fd12.out, rfl, rfl⟩, HN⟩
        case measure => simp [intOf]
    · obtain ⟨f0, f1, hfb, hF0', hF1', rfl, rfl⟩ := hNt.out
      have hF0 := Lib.hid hF0'
      have hF1 := Lib.hid hF1'
      replace hfb := Lib.hid hfb
      clear hNt hF0' hF1'
      clear hs24 hs32 hs80 hs120 hs88 hs128
      have HP := Lib.hid (HR.sub (qs := [(b5, #[.int .u64 v0, .int .u64 v8, .int .u64 v16, .int .u64 ax, .int .u64 ay, .int .u64 cx, .int .u64 cy, .int .u64 v40, .int .u64 v48, .int .u64 v56, .int .u64 v64, .int .u64 v72, .int .u64 p0, .int .u64 q0, .slice (some ⟨b, o + 88, none⟩) 32 (c - 88), .int .u64 p1, .int .u64 q1, .slice (some ⟨b, o + 128, none⟩) 32 (c - 128), .int .u64 0, .int .u64 0, .bool false, .int .u64 0, .int .u64 0, .bool false, .int .u64 0, .int .u64 0, .bool false, .int .u64 0, .int .u64 0, .int .u64 0, .int .u64 0, .int .u64 0], 37), (b2, zC, 37)]) HL.out (by simp))
      have hth := (HP.out.row (b := b5) (cs := #[.int .u64 v0, .int .u64 v8, .int .u64 v16, .int .u64 ax, .int .u64 ay, .int .u64 cx, .int .u64 cy, .int .u64 v40, .int .u64 v48, .int .u64 v56, .int .u64 v64, .int .u64 v72, .int .u64 p0, .int .u64 q0, .slice (some ⟨b, o + 88, none⟩) 32 (c - 88), .int .u64 p1, .int .u64 q1, .slice (some ⟨b, o + 128, none⟩) 32 (c - 128), .int .u64 0, .int .u64 0, .bool false, .int .u64 0, .int .u64 0, .bool false, .int .u64 0, .int .u64 0, .bool false, .int .u64 0, .int .u64 0, .int .u64 0, .int .u64 0, .int .u64 0]) (t := 37) (by simp)).thereMid 18 2 (by simp)
      go_upto_region 20 with (first | (go_at_call_of 44 (Value.int IntKind.i64 160); refine (cn160.out _ (hB.out _ HP.out.2)).mono ?_; rintro e w' ⟨rfl, hw⟩; rw [hw]; clear hw) | (go_at_call_of 44 (Value.int IntKind.i64 168); refine (cn168.out _ (hB.out _ HP.out.2)).mono ?_; rintro e w' ⟨rfl, hw⟩; rw [hw]; clear hw) | (refine wpList_store_mid rfl _ _ _ rfl b5 18 #[.int .u64 v160, .int .u64 v168] rfl rfl hth sizA2 (one2 _ _) ?_))
      have H19 : Hid (HR w _ [(b5, #[.int .u64 v0, .int .u64 v8, .int .u64 v16, .int .u64 ax, .int .u64 ay, .int .u64 cx, .int .u64 cy, .int .u64 v40, .int .u64 v48, .int .u64 v56, .int .u64 v64, .int .u64 v72, .int .u64 p0, .int .u64 q0, .slice (some ⟨b, o + 88, none⟩) 32 (c - 88), .int .u64 p1, .int .u64 q1, .slice (some ⟨b, o + 128, none⟩) 32 (c - 128), .int .u64 v160, .int .u64 v168, .bool false, .int .u64 0, .int .u64 0, .bool false, .int .u64 0, .int .u64 0, .bool false, .int .u64 0, .int .u64 0, .int .u64 0, .int .u64 0, .int .u64 0], 37), (b2, zC, 37)]) := Lib.hid (HR.putMany (cs' := #[.int .u64 v0, .int .u64 v8, .int .u64 v16, .int .u64 ax, .int .u64 ay, .int .u64 cx, .int .u64 cy, .int .u64 v40, .int .u64 v48, .int .u64 v56, .int .u64 v64, .int .u64 v72, .int .u64 p0, .int .u64 q0, .slice (some ⟨b, o + 88, none⟩) 32 (c - 88), .int .u64 p1, .int .u64 q1, .slice (some ⟨b, o + 128, none⟩) 32 (c - 128), .int .u64 v160, .int .u64 v168, .bool false, .int .u64 0, .int .u64 0, .bool false, .int .u64 0, .int .u64 0, .bool false, .int .u64 0, .int .u64 0, .int .u64 0, .int .u64 0, .int .u64 0]) HP.out (by have := hd5.out; simp; omega) (by have := hd5.out; omega) (#[.int .u64 v160, .int .u64 v168] : Array Value).toList 18 (by simp) rfl)
      clear hth HP HL
      generalize wr.setCells b5 18 (#[.int .u64 v160, .int .u64 v168] : Array Value).toList = w19 at H19 ⊢
      obtain ⟨fb0, hfb0⟩ : ∃ z : Bool, fb = z := ⟨_, rfl⟩
      rw [hfb0]
      rw [hfb0] at hfb
      clear hfb0
      have undP := Try.underlying31
      go_upto_region 23 with fail
      go_loopw [6, 14, 15, 16] (fun s6 s14 s15 s16 wr => ∃ (j : Nat) (fb : Bool) (P : List (Bool × Int × Int)) (v : Value), j ≤ 3 ∧ s6 = .bool fb ∧ s14 = .int .i64 ((posL L j : Nat) : Int) ∧ s15 = v ∧ s16 = .int .i64 (j : Int) ∧ Hid (PfJ L j fb0 fb P) ∧ Hid (OwnP wr w.heap.size v P) ∧ Hid (HR w wr [(b5, #[.int .u64 v0, .int .u64 v8, .int .u64 v16, .int .u64 ax, .int .u64 ay, .int .u64 cx, .int .u64 cy, .int .u64 v40, .int .u64 v48, .int .u64 v56, .int .u64 v64, .int .u64 v72, .int .u64 p0, .int .u64 q0, .slice (some ⟨b, o + 88, none⟩) 32 (c - 88), .int .u64 p1, .int .u64 q1, .slice (some ⟨b, o + 128, none⟩) 32 (c - 128), .int .u64 v160, .int .u64 v168, .bool false, .int .u64 0, .int .u64 0, .bool false, .int .u64 0, .int .u64 0, .bool false, .int .u64 0, .int .u64 0, .int .u64 0, .int .u64 0, .int .u64 0], 37), (b2, zC, 37)])) (fun _ _ _ s16 _ => (3 - intOf s16).toNat)
      case atStart => exact ⟨0, fb0, [], _, by omega, rfl, rfl, rfl, rfl, Lib.hid ⟨rfl, fun h => ⟨h, fun i hi => by simp at hi⟩, fun h => .inl h⟩, Lib.hid (OwnP.nil _ _), H19⟩
      case round =>
        clear H19
        obtain ⟨j, fb, P, v, hj, rfl, rfl, hv, rfl, hPf, hOw, HL⟩ := hrel
        replace hv := hv.symm
        subst hv
        by_cases hj3 : j < 3
        · have hj3i : (j : Int) < 3 := by omega
          have hp1 := posL_le L j
          have hp2 := posL_mono3 L hj3
          have hpf := hfit.out
          obtain ⟨pn, hpn⟩ : ∃ z, posL L j = z := ⟨_, rfl⟩
          have hNs : posL L (j + 1) = posL L j + (if L.getD (posL L j) 0 = 1 then 17 else 1) := rfl
          have hnext : posL L (j + 1) ≤ posL L 3 := by
            have h1 : posL L 1 < posL L 2 := posL_mono L 1
            have h2 : posL L 2 < posL L 3 := posL_mono L 2
            match j, hj3 with
            | 0, _ => show posL L 1 ≤ posL L 3; omega
            | 1, _ => show posL L 2 ≤ posL L 3; omega
            | 2, _ => exact Nat.le_refl _
          rw [hpn] at hNs hp1 hp2 ⊢
          have hc0 := (hB.out _ HL.out.2) pn (by rw [hlen.out]; omega)
          obtain ⟨bv, hbvv⟩ : ∃ z : Int, ((L.getD pn 0 : Nat) : Int) = z := ⟨_, rfl⟩
          rw [hbvv] at hc0
          have pni : (pn : Int) ≤ 300 := by omega
          have pnl : (pn : Int) < (len : Int) := by omega
          have hM : Hid (ptB L j = (L.drop pn).take (posL L (j + 1) - pn)) := Lib.hid (by unfold ptB; rw [hpn])
          have hpn2 := Lib.hid hpn
          replace hp1 := Lib.hid hp1
          replace hp2 := Lib.hid hp2
          clear hpn
          by_cases hv1 : bv = 1
          · subst hv1
            have hk : posL L (j + 1) = pn + 17 := by rw [hNs, if_pos (by omega)]
            have hkl : pn + 17 ≤ len := by omega
            have hMk : Hid (ptB L j = (L.drop pn).take 17) := Lib.hid (by rw [hM.out, hk, Nat.add_sub_cancel_left])
            have hkn := Lib.hid hk
            have hml : ((L.drop pn).take 17).length = 17 := by rw [List.length_take, List.length_drop, hlen.out]; omega
            have hm256 : ∀ i, ((L.drop pn).take 17).getD i 0 < 256 := fun i => by
              rw [Obol.gd_take]
              split
              · rw [Obol.gd_drop]; exact hbv.out _
              · omega
            have hm0 : ((L.drop pn).take 17).getD 0 0 = L.getD pn 0 := by rw [Obol.gd_take, if_pos (by omega), Obol.gd_drop, Nat.add_zero]
            have cR0 : ∀ W, BL W b (o + pn) ((L.drop pn).take 17) → Calls Try.prog 46 #[.slice (some ⟨b, o + pn, none⟩) 17 (c - pn)] W (RdP ((L.drop pn).take 17) W) := fun W h => r3ReadP b (o + pn) (c - pn) _ hm256 hml (by rw [hm0]; omega) (by omega) (by omega) W h
            have cR := Lib.hid cR0
            have hsl : ∀ W, (Instr.slice 26 (.slice (some ⟨b, o, none⟩) len c) (some (.int .i64 (pn : Int))) (some (.int .i64 ((pn : Int) + 17))) none).run Try.prog W = .ok (.slice (some ⟨b, o + pn, none⟩) 17 (c - pn)) W := fun W => slice_part b o len c pn 17 (by omega) (by omega) W
            have hkli := Lib.hid hkl
            clear hk hNs hnext hml hm256 hm0 cR0 hbvv hkl hpf
            go_wp2_with fail
            refine (cR.out _ (bl_at (hB.out _ HL.out.2) pn 17 (by rw [hlen.out]; exact hkli.out))).mono ?_
            rintro e wp ⟨⟨pi, pX, pY, ok, rfl, h1, h2⟩, hb⟩
            have hcr : Hid (CrO (ptB L j) pi pX pY ok) := Lib.hid (by rw [hMk.out]; exact ⟨h1, h2⟩)
            have HA := Lib.hid (HL.out.next hb)
            have OA := Lib.hid (hOw.out.below hb)
            clear h1 h2 hb HL hOw
            have hth := Row.newThere wp #[.bool false, .int .u64 0, .int .u64 0] 31
            go_upto_region 29 with (refine wpList_store_mid rfl _ _ _ rfl wp.heap.size 0 #[.bool pi, .int .u64 pX, .int .u64 pY] rfl rfl hth sizPT (one3 _ _ _) ?_)
            have HF := Lib.hid (HA.out.fill #[.bool false, .int .u64 0, .int .u64 0] #[.bool pi, .int .u64 pX, .int .u64 pY] 31 rfl)
            have OB := Lib.hid (OA.out.below (((HR.refl wp).fill #[.bool false, .int .u64 0, .int .u64 0] #[.bool pi, .int .u64 pX, .int .u64 pY] 31 rfl).2))
            clear hth HA OA
            generalize (wp.alloc (.cells #[.bool false, .int .u64 0, .int .u64 0] 31)).setCells wp.heap.size 0 (#[.bool pi, .int .u64 pX, .int .u64 pY] : Array Value).toList = wf at HF OB ⊢
            generalize wp.heap.size = b18 at HF ⊢
            have hP3 : P.length ≤ 100 := by have := hPf.out.1; omega
            obtain ⟨v', wa, hap, hOa, hBa, hKa⟩ := append_ownP wf w.heap.size v P (pi, pX, pY) OB.out hP3 HF.out.2.size
            have HAA : Hid (HR w wa [(b5, #[.int .u64 v0, .int .u64 v8, .int .u64 v16, .int .u64 ax, .int .u64 ay, .int .u64 cx, .int .u64 cy, .int .u64 v40, .int .u64 v48, .int .u64 v56, .int .u64 v64, .int .u64 v72, .int .u64 p0, .int .u64 q0, .slice (some ⟨b, o + 88, none⟩) 32 (c - 88), .int .u64 p1, .int .u64 q1, .slice (some ⟨b, o + 128, none⟩) 32 (c - 128), .int .u64 v160, .int .u64 v168, .bool false, .int .u64 0, .int .u64 0, .bool false, .int .u64 0, .int .u64 0, .bool false, .int .u64 0, .int .u64 0, .int .u64 0, .int .u64 0, .int .u64 0], 37), (b2, zC, 37)]) := Lib.hid ⟨fun r hr => hKa _ _ _ (by simp only [List.mem_cons, List.not_mem_nil, or_false] at hr; rcases hr with rfl | rfl; (exact (by decide : (37 : TypeId) ≠ 31)); exact (by decide : (37 : TypeId) ≠ 31)) (HF.out.1 r (List.mem_cons_of_mem _ hr)), HF.out.2.trans hBa⟩
            have OAA := Lib.hid hOa
            have hr18 := HF.out.row (b := b18) (cs := #[.bool pi, .int .u64 pX, .int .u64 pY]) (t := 31) (by simp)
            clear hOa hBa hKa OB hP3
            cases fb
            · go_wp2_with (first | (refine wpList_load_row rfl _ _ rfl b18 rfl 31 #[.bool pi, .int .u64 pX, .int .u64 pY] (0, 0) _ hr18 undP rfl sizPT ?_) | (at_builtin; refine wpList_appended rfl _ _ _ _ rfl _ _ _ rfl rfl hap ?_))
              go_roundw
              case rel => exact ⟨j + 1, false, P ++ [(pi, pX, pY)], _, by omega, rfl, by rw [hkn.out]; simp, rfl, by simp, Lib.hid (hPf.out.next hj3 hcr.out), OAA, HAA⟩
              case measure => simp [intOf]; omega
            · go_wp2_with (first | (refine wpList_load_row rfl _ _ rfl b18 rfl 31 #[.bool pi, .int .u64 pX, .int .u64 pY] (0, 0) _ hr18 undP rfl sizPT ?_) | (at_builtin; refine wpList_appended rfl _ _ _ _ rfl _ _ _ rfl rfl hap ?_))
              go_roundw
              case rel => exact ⟨j + 1, ok, P ++ [(pi, pX, pY)], _, by omega, rfl, by rw [hkn.out]; simp, rfl, by simp, Lib.hid (hPf.out.next hj3 hcr.out), OAA, HAA⟩
              case measure => simp [intOf]; omega
          · have hvb : (bv == 1) = false := beq_eq_false_iff_ne.2 hv1
            have hk : posL L (j + 1) = pn + 1 := by rw [hNs, if_neg (by omega)]
            have hkl : pn + 1 ≤ len := by omega
            have hMk : Hid (ptB L j = (L.drop pn).take 1) := Lib.hid (by rw [hM.out, hk, Nat.add_sub_cancel_left])
            have hkn := Lib.hid hk
            have hml : ((L.drop pn).take 1).length = 1 := by rw [List.length_take, List.length_drop, hlen.out]; omega
            have hm256 : ∀ i, ((L.drop pn).take 1).getD i 0 < 256 := fun i => by
              rw [Obol.gd_take]
              split
              · rw [Obol.gd_drop]; exact hbv.out _
              · omega
            have hm0 : ((L.drop pn).take 1).getD 0 0 = L.getD pn 0 := by rw [Obol.gd_take, if_pos (by omega), Obol.gd_drop, Nat.add_zero]
            have cR0 : ∀ W, BL W b (o + pn) ((L.drop pn).take 1) → Calls Try.prog 46 #[.slice (some ⟨b, o + pn, none⟩) 1 (c - pn)] W (RdP ((L.drop pn).take 1) W) := fun W h => by
              by_cases hz : L.getD pn 0 = 0
              · exact r3ReadI b (o + pn) (c - pn) _ hm256 hml (by rw [hm0]; exact hz) (by omega) (by omega) W h
              · exact r3ReadE b (o + pn) (c - pn) _ hm256 hml (by rw [hm0]; exact hz) (by omega) (by omega) W h
            have cR := Lib.hid cR0
            have hsl : ∀ W, (Instr.slice 26 (.slice (some ⟨b, o, none⟩) len c) (some (.int .i64 (pn : Int))) (some (.int .i64 ((pn : Int) + 1))) none).run Try.prog W = .ok (.slice (some ⟨b, o + pn, none⟩) 1 (c - pn)) W := fun W => slice_part b o len c pn 1 (by omega) (by omega) W
            have hkli := Lib.hid hkl
            clear hk hNs hnext hml hm256 hm0 cR0 hbvv hkl hpf
            go_wp2_with fail
            refine (cR.out _ (bl_at (hB.out _ HL.out.2) pn 1 (by rw [hlen.out]; exact hkli.out))).mono ?_
            rintro e wp ⟨⟨pi, pX, pY, ok, rfl, h1, h2⟩, hb⟩
            have hcr : Hid (CrO (ptB L j) pi pX pY ok) := Lib.hid (by rw [hMk.out]; exact ⟨h1, h2⟩)
            have HA := Lib.hid (HL.out.next hb)
            have OA := Lib.hid (hOw.out.below hb)
            clear h1 h2 hb HL hOw
            have hth := Row.newThere wp #[.bool false, .int .u64 0, .int .u64 0] 31
            go_upto_region 29 with (refine wpList_store_mid rfl _ _ _ rfl wp.heap.size 0 #[.bool pi, .int .u64 pX, .int .u64 pY] rfl rfl hth sizPT (one3 _ _ _) ?_)
            have HF := Lib.hid (HA.out.fill #[.bool false, .int .u64 0, .int .u64 0] #[.bool pi, .int .u64 pX, .int .u64 pY] 31 rfl)
            have OB := Lib.hid (OA.out.below (((HR.refl wp).fill #[.bool false, .int .u64 0, .int .u64 0] #[.bool pi, .int .u64 pX, .int .u64 pY] 31 rfl).2))
            clear hth HA OA
            generalize (wp.alloc (.cells #[.bool false, .int .u64 0, .int .u64 0] 31)).setCells wp.heap.size 0 (#[.bool pi, .int .u64 pX, .int .u64 pY] : Array Value).toList = wf at HF OB ⊢
            generalize wp.heap.size = b18 at HF ⊢
            have hP3 : P.length ≤ 100 := by have := hPf.out.1; omega
            obtain ⟨v', wa, hap, hOa, hBa, hKa⟩ := append_ownP wf w.heap.size v P (pi, pX, pY) OB.out hP3 HF.out.2.size
            have HAA : Hid (HR w wa [(b5, #[.int .u64 v0, .int .u64 v8, .int .u64 v16, .int .u64 ax, .int .u64 ay, .int .u64 cx, .int .u64 cy, .int .u64 v40, .int .u64 v48, .int .u64 v56, .int .u64 v64, .int .u64 v72, .int .u64 p0, .int .u64 q0, .slice (some ⟨b, o + 88, none⟩) 32 (c - 88), .int .u64 p1, .int .u64 q1, .slice (some ⟨b, o + 128, none⟩) 32 (c - 128), .int .u64 v160, .int .u64 v168, .bool false, .int .u64 0, .int .u64 0, .bool false, .int .u64 0, .int .u64 0, .bool false, .int .u64 0, .int .u64 0, .int .u64 0, .int .u64 0, .int .u64 0], 37), (b2, zC, 37)]) := Lib.hid ⟨fun r hr => hKa _ _ _ (by simp only [List.mem_cons, List.not_mem_nil, or_false] at hr; rcases hr with rfl | rfl; (exact (by decide : (37 : TypeId) ≠ 31)); exact (by decide : (37 : TypeId) ≠ 31)) (HF.out.1 r (List.mem_cons_of_mem _ hr)), HF.out.2.trans hBa⟩
            have OAA := Lib.hid hOa
            have hr18 := HF.out.row (b := b18) (cs := #[.bool pi, .int .u64 pX, .int .u64 pY]) (t := 31) (by simp)
            clear hOa hBa hKa OB hP3
            cases fb
            · go_wp2_with (first | (refine wpList_load_row rfl _ _ rfl b18 rfl 31 #[.bool pi, .int .u64 pX, .int .u64 pY] (0, 0) _ hr18 undP rfl sizPT ?_) | (at_builtin; refine wpList_appended rfl _ _ _ _ rfl _ _ _ rfl rfl hap ?_))
              go_roundw
              case rel => exact ⟨j + 1, false, P ++ [(pi, pX, pY)], _, by omega, rfl, by rw [hkn.out]; simp, rfl, by simp, Lib.hid (hPf.out.next hj3 hcr.out), OAA, HAA⟩
              case measure => simp [intOf]; omega
            · go_wp2_with (first | (refine wpList_load_row rfl _ _ rfl b18 rfl 31 #[.bool pi, .int .u64 pX, .int .u64 pY] (0, 0) _ hr18 undP rfl sizPT ?_) | (at_builtin; refine wpList_appended rfl _ _ _ _ rfl _ _ _ rfl rfl hap ?_))
              go_roundw
              case rel => exact ⟨j + 1, ok, P ++ [(pi, pX, pY)], _, by omega, rfl, by rw [hkn.out]; simp, rfl, by simp, Lib.hid (hPf.out.next hj3 hcr.out), OAA, HAA⟩
              case measure => simp [intOf]; omega
        · obtain rfl : j = 3 := by omega
          have hP3 := hPf.out.1
          obtain ⟨gl, cl, cur, rfl, hcl, hcl2, hgb, hrl, hcu⟩ := OwnP.shape hOw.out (by omega)
          obtain ⟨ia, xa, ya, ib, xb, yb, ic, xc, yc, rfl⟩ : ∃ ia xa ya ib xb yb ic xc yc, P = [(ia, xa, ya), (ib, xb, yb), (ic, xc, yc)] := by
            match P, hP3 with
            | [x, y, z], _ => exact ⟨x.1, x.2.1, x.2.2, y.1, y.2.1, y.2.2, z.1, z.2.1, z.2.2, rfl⟩
          have hcur : Hid (cur[0]? = some (.bool ia) ∧ cur[1]? = some (.int .u64 xa) ∧ cur[2]? = some (.int .u64 ya) ∧ cur[3]? = some (.bool ib) ∧ cur[4]? = some (.int .u64 xb) ∧ cur[5]? = some (.int .u64 yb) ∧ cur[6]? = some (.bool ic) ∧ cur[7]? = some (.int .u64 xc) ∧ cur[8]? = some (.int .u64 yc)) := Lib.hid ⟨hcu 0 (by simp), hcu 1 (by simp), hcu 2 (by simp), hcu 3 (by simp), hcu 4 (by simp), hcu 5 (by simp), hcu 6 (by simp), hcu 7 (by simp), hcu 8 (by simp)⟩
          have hgn : Hid (gl ≠ b5) := Lib.hid (Row.ne_type hrl (HL.out.row (b := b5) (cs := #[.int .u64 v0, .int .u64 v8, .int .u64 v16, .int .u64 ax, .int .u64 ay, .int .u64 cx, .int .u64 cy, .int .u64 v40, .int .u64 v48, .int .u64 v56, .int .u64 v64, .int .u64 v72, .int .u64 p0, .int .u64 q0, .slice (some ⟨b, o + 88, none⟩) 32 (c - 88), .int .u64 p1, .int .u64 q1, .slice (some ⟨b, o + 128, none⟩) 32 (c - 128), .int .u64 v160, .int .u64 v168, .bool false, .int .u64 0, .int .u64 0, .bool false, .int .u64 0, .int .u64 0, .bool false, .int .u64 0, .int .u64 0, .int .u64 0, .int .u64 0, .int .u64 0]) (t := 37) (by simp)) (by decide))
          have HA := Lib.hid (HR.add HL.out hrl)
          have HQ := Lib.hid (HR.sub (qs := [(gl, cur, 31), (b2, zC, 37)]) HA.out (by simp))
          have HF' := Lib.hid (HR.sub (qs := [(b5, #[.int .u64 v0, .int .u64 v8, .int .u64 v16, .int .u64 ax, .int .u64 ay, .int .u64 cx, .int .u64 cy, .int .u64 v40, .int .u64 v48, .int .u64 v56, .int .u64 v64, .int .u64 v72, .int .u64 p0, .int .u64 q0, .slice (some ⟨b, o + 88, none⟩) 32 (c - 88), .int .u64 p1, .int .u64 q1, .slice (some ⟨b, o + 128, none⟩) 32 (c - 128), .int .u64 v160, .int .u64 v168, .bool false, .int .u64 0, .int .u64 0, .bool false, .int .u64 0, .int .u64 0, .bool false, .int .u64 0, .int .u64 0, .int .u64 0, .int .u64 0, .int .u64 0], 37), (b2, zC, 37)]) HA.out (by simp))
          have hcli : (3 : Int) ≤ (cl : Int) := by simp at hcl; omega
          clear hOw hcu hrl hgb HL HA hcl hP3
          go_upto_region 32 with fail
          rename_i K32 hK32
          refine wp_region_noPanic ?_
          refine wp_region_held_drew (S := fun wq => wq.cell? ⟨gl, 0, none⟩ = some (.bool ia) ∧ wq.cell? ⟨gl, 1, none⟩ = some (.int .u64 xa) ∧ wq.cell? ⟨gl, 2, none⟩ = some (.int .u64 ya) ∧ wq.cell? ⟨gl, 3, none⟩ = some (.bool ib) ∧ wq.cell? ⟨gl, 4, none⟩ = some (.int .u64 xb) ∧ wq.cell? ⟨gl, 5, none⟩ = some (.int .u64 yb) ∧ wq.cell? ⟨gl, 6, none⟩ = some (.bool ic) ∧ wq.cell? ⟨gl, 7, none⟩ = some (.int .u64 xc) ∧ wq.cell? ⟨gl, 8, none⟩ = some (.int .u64 yc) ∧ HR w wq [(gl, cur, 31), (b2, zC, 37)]) (by kernel_rfl) ?_ (fun hHeld => ?_)
          · exact ⟨HR.cell (HR.drew HQ.out) (b := gl) (cs := cur) (t := 31) (by simp) 0 hcur.out.1, HR.cell (HR.drew HQ.out) (b := gl) (cs := cur) (t := 31) (by simp) 1 hcur.out.2.1, HR.cell (HR.drew HQ.out) (b := gl) (cs := cur) (t := 31) (by simp) 2 hcur.out.2.2.1, HR.cell (HR.drew HQ.out) (b := gl) (cs := cur) (t := 31) (by simp) 3 hcur.out.2.2.2.1, HR.cell (HR.drew HQ.out) (b := gl) (cs := cur) (t := 31) (by simp) 4 hcur.out.2.2.2.2.1, HR.cell (HR.drew HQ.out) (b := gl) (cs := cur) (t := 31) (by simp) 5 hcur.out.2.2.2.2.2.1, HR.cell (HR.drew HQ.out) (b := gl) (cs := cur) (t := 31) (by simp) 6 hcur.out.2.2.2.2.2.2.1, HR.cell (HR.drew HQ.out) (b := gl) (cs := cur) (t := 31) (by simp) 7 hcur.out.2.2.2.2.2.2.2.1, HR.cell (HR.drew HQ.out) (b := gl) (cs := cur) (t := 31) (by simp) 8 hcur.out.2.2.2.2.2.2.2.2, HR.drew HQ.out⟩
          refine tk 0 hHeld ?_; refine tk 1 hHeld ?_; refine tk 2 hHeld ?_; refine tk 3 hHeld ?_; refine tk 4 hHeld ?_; refine tk 5 hHeld ?_; refine tk 6 hHeld ?_; refine tk 7 hHeld ?_; refine tk 8 hHeld ?_; refine tk 9 hHeld ?_; refine tk 10 hHeld ?_
          have HX := HR.drew HF'.out
          have hth := (HX.row (b := b5) (cs := #[.int .u64 v0, .int .u64 v8, .int .u64 v16, .int .u64 ax, .int .u64 ay, .int .u64 cx, .int .u64 cy, .int .u64 v40, .int .u64 v48, .int .u64 v56, .int .u64 v64, .int .u64 v72, .int .u64 p0, .int .u64 q0, .slice (some ⟨b, o + 88, none⟩) 32 (c - 88), .int .u64 p1, .int .u64 q1, .slice (some ⟨b, o + 128, none⟩) 32 (c - 128), .int .u64 v160, .int .u64 v168, .bool false, .int .u64 0, .int .u64 0, .bool false, .int .u64 0, .int .u64 0, .bool false, .int .u64 0, .int .u64 0, .int .u64 0, .int .u64 0, .int .u64 0]) (t := 37) (by simp)).thereMid 20 9 (by simp)
          refine stepH 11 (by kernel_rfl) rfl (by rfl) ?_
          intro K hK
          refine wp_store_mid 33 _ _ rfl b5 20 #[.bool ia, .int .u64 xa, .int .u64 ya, .bool ib, .int .u64 xb, .int .u64 yb, .bool ic, .int .u64 xc, .int .u64 yc] rfl rfl hth sizPR (one9 _ _ _ _ _ _ _ _ _) ?_
          refine hK.out _ _ ?_ (fun hHeld => ?_)
          · exact ⟨HR.cell (HR.otherMany (D := b5) (by have := hd5.out; have := hgn.out; simp; omega) (by have := hd5.out; omega) (#[.bool ia, .int .u64 xa, .int .u64 ya, .bool ib, .int .u64 xb, .int .u64 yb, .bool ic, .int .u64 xc, .int .u64 yc] : Array Value).toList 20 _ hHeld.2.2.2.2.2.2.2.2.2) (b := gl) (cs := cur) (t := 31) (by simp) 0 hcur.out.1, HR.cell (HR.otherMany (D := b5) (by have := hd5.out; have := hgn.out; simp; omega) (by have := hd5.out; omega) (#[.bool ia, .int .u64 xa, .int .u64 ya, .bool ib, .int .u64 xb, .int .u64 yb, .bool ic, .int .u64 xc, .int .u64 yc] : Array Value).toList 20 _ hHeld.2.2.2.2.2.2.2.2.2) (b := gl) (cs := cur) (t := 31) (by simp) 1 hcur.out.2.1, HR.cell (HR.otherMany (D := b5) (by have := hd5.out; have := hgn.out; simp; omega) (by have := hd5.out; omega) (#[.bool ia, .int .u64 xa, .int .u64 ya, .bool ib, .int .u64 xb, .int .u64 yb, .bool ic, .int .u64 xc, .int .u64 yc] : Array Value).toList 20 _ hHeld.2.2.2.2.2.2.2.2.2) (b := gl) (cs := cur) (t := 31) (by simp) 2 hcur.out.2.2.1, HR.cell (HR.otherMany (D := b5) (by have := hd5.out; have := hgn.out; simp; omega) (by have := hd5.out; omega) (#[.bool ia, .int .u64 xa, .int .u64 ya, .bool ib, .int .u64 xb, .int .u64 yb, .bool ic, .int .u64 xc, .int .u64 yc] : Array Value).toList 20 _ hHeld.2.2.2.2.2.2.2.2.2) (b := gl) (cs := cur) (t := 31) (by simp) 3 hcur.out.2.2.2.1, HR.cell (HR.otherMany (D := b5) (by have := hd5.out; have := hgn.out; simp; omega) (by have := hd5.out; omega) (#[.bool ia, .int .u64 xa, .int .u64 ya, .bool ib, .int .u64 xb, .int .u64 yb, .bool ic, .int .u64 xc, .int .u64 yc] : Array Value).toList 20 _ hHeld.2.2.2.2.2.2.2.2.2) (b := gl) (cs := cur) (t := 31) (by simp) 4 hcur.out.2.2.2.2.1, HR.cell (HR.otherMany (D := b5) (by have := hd5.out; have := hgn.out; simp; omega) (by have := hd5.out; omega) (#[.bool ia, .int .u64 xa, .int .u64 ya, .bool ib, .int .u64 xb, .int .u64 yb, .bool ic, .int .u64 xc, .int .u64 yc] : Array Value).toList 20 _ hHeld.2.2.2.2.2.2.2.2.2) (b := gl) (cs := cur) (t := 31) (by simp) 5 hcur.out.2.2.2.2.2.1, HR.cell (HR.otherMany (D := b5) (by have := hd5.out; have := hgn.out; simp; omega) (by have := hd5.out; omega) (#[.bool ia, .int .u64 xa, .int .u64 ya, .bool ib, .int .u64 xb, .int .u64 yb, .bool ic, .int .u64 xc, .int .u64 yc] : Array Value).toList 20 _ hHeld.2.2.2.2.2.2.2.2.2) (b := gl) (cs := cur) (t := 31) (by simp) 6 hcur.out.2.2.2.2.2.2.1, HR.cell (HR.otherMany (D := b5) (by have := hd5.out; have := hgn.out; simp; omega) (by have := hd5.out; omega) (#[.bool ia, .int .u64 xa, .int .u64 ya, .bool ib, .int .u64 xb, .int .u64 yb, .bool ic, .int .u64 xc, .int .u64 yc] : Array Value).toList 20 _ hHeld.2.2.2.2.2.2.2.2.2) (b := gl) (cs := cur) (t := 31) (by simp) 7 hcur.out.2.2.2.2.2.2.2.1, HR.cell (HR.otherMany (D := b5) (by have := hd5.out; have := hgn.out; simp; omega) (by have := hd5.out; omega) (#[.bool ia, .int .u64 xa, .int .u64 ya, .bool ib, .int .u64 xb, .int .u64 yb, .bool ic, .int .u64 xc, .int .u64 yc] : Array Value).toList 20 _ hHeld.2.2.2.2.2.2.2.2.2) (b := gl) (cs := cur) (t := 31) (by simp) 8 hcur.out.2.2.2.2.2.2.2.2, (HR.otherMany (D := b5) (by have := hd5.out; have := hgn.out; simp; omega) (by have := hd5.out; omega) (#[.bool ia, .int .u64 xa, .int .u64 ya, .bool ib, .int .u64 xb, .int .u64 yb, .bool ic, .int .u64 xc, .int .u64 yc] : Array Value).toList 20 _ hHeld.2.2.2.2.2.2.2.2.2)⟩
          clear hK K
          try simp only [Act.put, List.setIfInBounds_toArray, List.set_cons_zero, List.set_cons_succ]
          refine wpAnyH_done (by kernel_rfl) (NoPanic.normal ?_) _
          have H32 : Hid (HR w _ [(b5, #[.int .u64 v0, .int .u64 v8, .int .u64 v16, .int .u64 ax, .int .u64 ay, .int .u64 cx, .int .u64 cy, .int .u64 v40, .int .u64 v48, .int .u64 v56, .int .u64 v64, .int .u64 v72, .int .u64 p0, .int .u64 q0, .slice (some ⟨b, o + 88, none⟩) 32 (c - 88), .int .u64 p1, .int .u64 q1, .slice (some ⟨b, o + 128, none⟩) 32 (c - 128), .int .u64 v160, .int .u64 v168, .bool ia, .int .u64 xa, .int .u64 ya, .bool ib, .int .u64 xb, .int .u64 yb, .bool ic, .int .u64 xc, .int .u64 yc, .int .u64 0, .int .u64 0, .int .u64 0], 37), (b2, zC, 37)]) := Lib.hid (HR.putMany (cs' := #[.int .u64 v0, .int .u64 v8, .int .u64 v16, .int .u64 ax, .int .u64 ay, .int .u64 cx, .int .u64 cy, .int .u64 v40, .int .u64 v48, .int .u64 v56, .int .u64 v64, .int .u64 v72, .int .u64 p0, .int .u64 q0, .slice (some ⟨b, o + 88, none⟩) 32 (c - 88), .int .u64 p1, .int .u64 q1, .slice (some ⟨b, o + 128, none⟩) 32 (c - 128), .int .u64 v160, .int .u64 v168, .bool ia, .int .u64 xa, .int .u64 ya, .bool ib, .int .u64 xb, .int .u64 yb, .bool ic, .int .u64 xc, .int .u64 yc, .int .u64 0, .int .u64 0, .int .u64 0]) HX (by have := hd5.out; simp; omega) (by have := hd5.out; omega) (#[.bool ia, .int .u64 xa, .int .u64 ya, .bool ib, .int .u64 xb, .int .u64 yb, .bool ic, .int .u64 xc, .int .u64 yc] : Array Value).toList 20 (by simp) rfl)
          clear hHeld HX HQ HF' hth
          generalize wr.drew.setCells b5 20 (#[.bool ia, .int .u64 xa, .int .u64 ya, .bool ib, .int .u64 xb, .int .u64 yb, .bool ic, .int .u64 xc, .int .u64 yc] : Array Value).toList = w32 at H32 ⊢
          have hp3' : Hid (posL L 3 ≤ 300) := Lib.hid (by have := (posL_le L 3).1; omega)
          have hbs5 : Hid (b2 ≠ b5 ∧ w.heap.size ≤ b2) := Lib.hid (by have := hd5.out; have := hbs.out; omega)
          have hbs6 : Hid (w.heap.size ≤ b5) := Lib.hid hd5.out.2
          have hl16 : Hid (posL L 3 + 16 ≤ L.length) := Lib.hid (by rw [hlen.out]; exact hfit.out)
          have cN : ∀ gx gy fg, FdO (numAt L (posL L 3)) gx gy fg → (fb && (fa && (fc && fg))) = false → ∀ e w', e = .returned (.tuple #[.agg zC, .int .i64 3]) → Below w.heap.size w w' → RrO L b o c w e w' :=
            fun gx gy fg hg hk e w' he hb => ⟨zC, 3, he, .inl ⟨rfl, rfl, fun hx => rr_no fd7.out fd9.out hF0.out hF1.out hfb.out hPf.out hg hk hx.2⟩, hb⟩
          have cY : ∀ gx gy, FdO (numAt L (posL L 3)) gx gy true → (fb && (fa && fc)) = true → RrA L (gD ({ root := v0, inn := v8, out := v16, fx := ax, fy := ay, tx := cx, ty := cy, seq := v40, e0 := v48, e1 := v56, m0 := v64, m1 := v72, n0x := p0, n0y := q0, n1x := p1, n1y := q1, a0 := v160, a1 := v168, ia := ia, xa := xa, ya := ya, ib := ib, xb := xb, yb := yb, ic := ic, xc := xc, yc := yc, gx := 0, gy := 0, gz := 0, s0 := some ⟨b, o + 88, none⟩, l0 := 32, c0 := c - 88, s1 := some ⟨b, o + 128, none⟩, l1 := 32, c1 := c - 128 } : TxD) gx gy ((numAt L (posL L 3 + 8) : Nat) : Int)) :=
            fun gx gy hg hk => rr_yes hv0.out hv8.out hv16.out hv40.out hv48.out hv56.out hv64.out hv72.out hv160.out hv168.out fd7.out fd9.out hF0.out hF1.out hfb.out hPf.out hg hk
          refine hK32 _ _ ?_
          clear hK32
          exact rrEnd fb fa fc b o c len L hlen hc hc2 hn2 hbv (p3 + 16) (posL L 3) hfit.out hp3'.out w w32 hB b2 b5 hbs5 hbs6 ({ root := v0, inn := v8, out := v16, fx := ax, fy := ay, tx := cx, ty := cy, seq := v40, e0 := v48, e1 := v56, m0 := v64, m1 := v72, n0x := p0, n0y := q0, n1x := p1, n1y := q1, a0 := v160, a1 := v168, ia := ia, xa := xa, ya := ya, ib := ib, xb := xb, yb := yb, ic := ic, xc := xc, yc := yc, gx := 0, gy := 0, gz := 0, s0 := some ⟨b, o + 88, none⟩, l0 := 32, c0 := c - 88, s1 := some ⟨b, o + 128, none⟩, l1 := 32, c1 := c - 128 } : TxD) H32 (RrO L b o c w) cN (fun gx gy hg hk =>
            have A := cY gx gy hg hk
            ⟨A.ok hbv.out hl16.out, fun hm e w' he hb => ⟨zC, 3, he, .inr ⟨_, A, hl16.out, ⟨rfl, rfl, rfl, rfl, rfl, rfl⟩, .inl ⟨hm, rfl, rfl⟩⟩, hb⟩,
              fun hm hn e w' he hb => ⟨zC, 4, he, .inr ⟨_, A, hl16.out, ⟨rfl, rfl, rfl, rfl, rfl, rfl⟩, .inr (.inl ⟨hm, by have := hp3.out; have := hlen.out; omega, rfl, rfl⟩)⟩, hb⟩,
              fun hm hn e w' he hb => ⟨_, 0, he, .inr ⟨_, A, hl16.out, ⟨rfl, rfl, rfl, rfl, rfl, rfl⟩, .inr (.inr ⟨hm, by have := hp3.out; have := hlen.out; omega, rfl, rfl⟩)⟩, hb⟩⟩)
set_option maxRecDepth 100000 in
set_option maxHeartbeats 8000000 in
theorem r19ReadS (ao : Option Addr) (n c : Nat) (L : List Nat) (hl : L.length = n) (hn2 : n ≤ 1000000) (hF : ¬ posL L 3 + 16 ≤ n) (hb256 : ∀ i, L.getD i 0 < 256) (w : World) (hS : SlI w.heap.size w ao c L) :
    Calls Try.prog 16 #[.slice ao n c] w fun e w' => e = .returned (.tuple #[.agg zC, .int .i64 3]) ∧ Below w.heap.size w w' := by
  have hSl := Lib.hid (fun (W : World) (hb : Below w.heap.size w W) => (show SlI w.heap.size W ao c L from hS.below hb))
  have cSz := Lib.hid (fun W (h : SlI w.heap.size W ao c L) => r19Size w.heap.size ao n c L hl hn2 hb256 W h)
  have hF2 : Hid (¬ posL L 3 + 16 ≤ L.length) := Lib.hid (by rw [hl]; exact hF)
  clear hS hF hb256
  go_enter Try.func16, Try.ntmps16
  have und := Try.underlying37
  go_upto_region 1 with fail
  have H1 := Lib.hid ((HR.refl w).new zC 37)
  generalize w.alloc (.cells zC 37) = w1 at H1 ⊢
  generalize hb2 : w.heap.size = b2 at H1 ⊢
  have hbs := Lib.hid hb2
  clear hb2
  go_wp2_with fail
  refine (cSz.out _ (hSl.out _ H1.out.2)).mono ?_
  rintro e w' ⟨rfl, hw⟩
  rw [hw, if_neg hF2.out]
  clear hw
  go_upto_region 3 with fail
  have h2 := H1.out.row (b := b2) (cs := zC) (t := 37) (by simp)
  have hth := h2.there
  go_wp2_with (refine wpList_store_mid rfl _ _ _ rfl b2 0 zC rfl rfl hth sizTX oneZ ?_)
  have RZ := h2.store zC rfl
  have HZ := HR.otherMany (D := b2) (rs := []) (by simp) (by have := hbs.out; omega) (zC : Array Value).toList 0 _ (HR.sub H1.out (by simp))
  refine bodyPost_ret (v := _) (results_two_row9 rfl _ rfl RZ und rfl sizTX) rfl ⟨rfl, ?_⟩
  exact HZ.2
/-- What the reference's reader answers. -/
def RrX (L : List Nat) (ao : Option Addr) (c : Nat) (w : World) (e : Ending) (w' : World) : Prop := ∃ (Z : Array Value) (k : Int), e = .returned (.tuple #[.agg Z, .int .i64 k]) ∧ Below w.heap.size w w' ∧
  ((k = 3 ∧ Z = zC ∧ ¬ (posL L 3 + 16 ≤ L.length ∧ RrW L)) ∨ ∃ b o, ao = some ⟨b, o, none⟩ ∧ b < w.heap.size ∧ BL w b o L ∧ RrE L b o c Z k)
theorem r19Read (ao : Option Addr) (n c : Nat) (L : List Nat) (hl : L.length = n) (hn2 : n ≤ 1000000) (hb256 : ∀ i, L.getD i 0 < 256) (w : World) (hS : SlI w.heap.size w ao c L) : Calls Try.prog 16 #[.slice ao n c] w (RrX L ao c w) := by
  by_cases hF : posL L 3 + 16 ≤ n
  · obtain ⟨b, o, rfl, hlt, hBL⟩ := hS.bl (by have := (posL_le L 3).2; omega)
    refine (r19ReadT b o c n L hl hn2 hF (by have := hS.le; omega) hS.cap hb256 w hBL hlt).mono ?_
    rintro e w' ⟨Z, k, he, hE, hb⟩
    exact ⟨Z, k, he, hb, .inr ⟨b, o, rfl, hlt, hBL, hE⟩⟩
  · refine (r19ReadS ao n c L hl hn2 hF hb256 w hS).mono ?_
    rintro e w' ⟨he, hb⟩
    exact ⟨zC, 3, he, hb, .inl ⟨rfl, rfl, fun h => hF (by rw [← hl]; exact h.1)⟩⟩

end Go.Proofs.Ytkfimfjjmdjbdaa
