import Derived.Test.YtkfimfjjmdjbdaaUp
import Derived.Test.YtkfimfjjmdjbdaaUu
set_option linter.unusedVariables false
set_option linter.unusedSimpArgs false
set_option linter.unusedSectionVars false
/- Walks: the law TxBack. -/
namespace Go.Proofs.Ytkfimfjjmdjbdaa
open Go.RowKit
set_option linter.unusedVariables false
set_option linter.unusedSimpArgs false

set_option maxRecDepth 100000 in
theorem neN19 (W : World) : (binOp .neq 41 .nilIface .nilIface).run Try.prog W = .ok (.bool false) W := by
  first | rfl | simp [binOp]
set_option maxRecDepth 100000 in
theorem neE19 (W : World) (a : Int) : (binOp .neq 41 (.iface 45 (.int .i64 a)) .nilIface).run Try.prog W = .ok (.bool true) W := by
  first | rfl | simp [binOp]
theorem slice_hi (b len c n : Nat) (h : n ≤ c) (W : World) : (Instr.slice 26 (.slice (some ⟨b, 0, none⟩) len c) none (some (.int .i64 (n : Int))) none).run Try.prog W = .ok (.slice (some ⟨b, 0, none⟩) n c) W := by
  have e2 : Try.prog.elem 26 = 5 := by simp [Program.elem, Try.underlying26]
  obtain ⟨i, hi, _, hs, _⟩ := info_parts info8
  rw [run_slice_h W 26 _ _ _ (by rw [e2]; exact Try.underlying26) .i64 n (by omega) (by omega), e2]
  simp [Go.sizeOf, typeInfo, hi, hs, Result.andThen, sliced]
  intro _
  simp [addB]
theorem RdE.good {t : TxD} {z : Obol.Rs} {Z : Array Value} {E : Value} (h : RdE t z Z E) (hm : mayB t = true) (hz : z = (false, [])) : Z = txC t ∧ E = .nilIface := by
  subst hz
  rcases h with ⟨h | h, _, _⟩ | ⟨_, _, h, _, _⟩ | ⟨_, _, _, h1, h2⟩
  · cases h
  · rw [hm] at h; cases h
  · simp at h
  · exact ⟨h1, h2⟩
theorem RdE.more {t : TxD} {z : Obol.Rs} {Z : Array Value} {E : Value} {x : Nat} (h : RdE t z Z E) (hm : mayB t = true) (hz : z = (false, [x])) : E = errV 4 := by
  subst hz
  rcases h with ⟨h | h, _, _⟩ | ⟨_, _, _, _, h2⟩ | ⟨_, _, h, _, _⟩
  · cases h
  · rw [hm] at h; cases h
  · exact h2
  · simp at h
theorem RdE.less {t : TxD} {z : Obol.Rs} {Z : Array Value} {E : Value} (h : RdE t z Z E) (hm : z.1 = true ∨ mayB t = false) : E = errV 3 := by
  rcases h with ⟨_, _, h2⟩ | ⟨h1, h3, _, _, _⟩ | ⟨h1, h3, _, _, _⟩
  · exact h2
  · rcases hm with h | h
    · rw [h] at h1; cases h1
    · rw [h] at h3; cases h3
  · rcases hm with h | h
    · rw [h] at h1; cases h1
    · rw [h] at h3; cases h3
theorem gd_lt {L : List Nat} (h : ∀ x ∈ L, x < 256) (i : Nat) : L.getD i 0 < 256 := by
  rw [List.getD_eq_getElem?_getD]
  cases hi : L[i]? with
  | none => simp
  | some x => exact h x (List.mem_of_getElem? hi)
theorem ptL_lt (i : Bool) (x y : Nat) : ∀ z ∈ Obol.ptL i x y, z < 256 := by
  unfold Obol.ptL
  cases i
  · intro z hz
    rw [if_neg (by simp)] at hz
    rcases List.mem_cons.1 hz with rfl | hz
    · decide
    · rcases List.mem_append.1 hz with hz | hz
      · exact Obol.be_lt _ z hz
      · exact Obol.be_lt _ z hz
  · intro z hz
    rw [if_pos rfl] at hz
    simp at hz
    omega
theorem app_lt {A B : List Nat} (ha : ∀ x ∈ A, x < 256) (hb : ∀ x ∈ B, x < 256) : ∀ x ∈ A ++ B, x < 256 := fun x hx => (List.mem_append.1 hx).elim (ha x) (hb x)
theorem wri_lt (t : TxD) {L0 L1 : List Nat} (h0 : ∀ x ∈ L0, x < 256) (h1 : ∀ x ∈ L1, x < 256) : ∀ x ∈ wriL t L0 L1, x < 256 := by
  have e := wriL_flat t L0 L1 []
  rw [List.append_nil] at e
  rw [e]
  repeat' (first | exact Obol.be_lt _ | exact h0 | exact h1 | exact ptL_lt _ _ _ | exact (fun x hx => (List.not_mem_nil hx).elim) | apply app_lt)
theorem wri_pos (t : TxD) (L0 L1 : List Nat) : 8 ≤ (wriL t L0 L1).length := by
  unfold wriL
  rw [List.length_append, be8_l]
  omega
theorem wri_le (t : TxD) {L0 L1 : List Nat} (h0 : L0.length = 32) (h1 : L1.length = 32) : (wriL t L0 L1).length ≤ 300 := by
  have := bodL_len t h0 h1
  unfold wriL
  simp only [List.length_append, be8_l]
  omega
theorem B8.mem {n : Nat} {L : List Nat} (h : B8 n L) : ∀ x ∈ L, x < 256 := Obol.mem_lt h.lt
theorem newsB9 (w : World) (m : Int) (m0 : 0 ≤ m) : ∀ j, j < [m.toNat].length → (w.alloc (.cells #[.int .u8 m] 5)).cell? ((⟨w.heap.size, 0, none⟩ : Addr).add j) = some (.int .u8 (([m.toNat].getD j 0 : Nat) : Int)) := fun j hj => by
  obtain rfl : j = 0 := by simp at hj; omega
  rw [addB]
  have := (show Row (w.alloc (.cells #[.int .u8 m] 5)) w.heap.size #[.int .u8 m] 5 from Row.new _ _ _).cell 0 rfl
  rw [this]
  simp
  omega
set_option maxRecDepth 100000 in
set_option maxHeartbeats 8000000 in
theorem walkTBL (w : World) (t : TxD) (ao : Option Addr) (len cap : Nat) (m : Int) (hl : ¬ (t.l0 < 200 ∧ t.l1 < 200)) : Calls Try.prog 5 #[txV t, .slice ao len cap, .int .u8 m] w fun e w' => e = .returned (.bool true) ∧ Below w.heap.size w w' := by
  have hq : (decide (t.l0 < 200) && decide (t.l1 < 200)) = false := by
    by_cases h0 : t.l0 < 200
    · rw [decide_eq_true h0, decide_eq_false (fun h => hl ⟨h0, h⟩)]; rfl
    · rw [decide_eq_false h0]; rfl
  have cL := Lib.hid (lLight t)
  rw [hq] at cL
  clear hl hq
  go_enter Try.func5, Try.ntmps5
  have und := Try.underlying37
  go_upto_region 1 with fail
  have H1 := Lib.hid ((HR.refl w).new (txC t) 37)
  generalize w.alloc (.cells (txC t) 37) = w1 at H1 ⊢
  generalize hb1 : w.heap.size = b1 at H1 ⊢
  have hbs := Lib.hid hb1
  clear hb1
  go_wp2_with fail
  refine (up19 _).mono ?_
  rintro e w2 ⟨rfl, hb⟩
  have H2 := Lib.hid (H1.out.next hb)
  clear hb H1
  have RT := Lib.hid (H2.out.row (b := b1) (cs := txC t) (t := 37) (by simp))
  go_wp2_with (refine wpList_load_row rfl _ _ rfl b1 rfl 37 (txC t) (0, 0) _ RT.out und rfl sizTX ?_)
  refine (cL.out _).mono ?_
  rintro e w3 ⟨rfl, hb⟩
  have H3 := Lib.hid (H2.out.next hb)
  clear RT hb H2
  go_wp2_with fail
  go_ret
  exact ⟨by simp, H3.out.2⟩
set_option maxRecDepth 100000 in
set_option maxHeartbeats 8000000 in
theorem walkTBM (w : World) (t : TxD) (ao : Option Addr) (len cap : Nat) (m : Int) (hl : t.l0 < 200 ∧ t.l1 < 200) (hb : 2000 < len) : Calls Try.prog 5 #[txV t, .slice ao len cap, .int .u8 m] w fun e w' => e = .returned (.bool true) ∧ Below w.heap.size w w' := by
  have hq : (decide (t.l0 < 200) && decide (t.l1 < 200)) = true := by rw [decide_eq_true hl.1, decide_eq_true hl.2]; rfl
  have cL := Lib.hid (lLight t)
  rw [hq] at cL
  have hl1 : (2000 : Int) < (len : Int) := by omega
  clear hl hq hb
  go_enter Try.func5, Try.ntmps5
  have und := Try.underlying37
  go_upto_region 1 with fail
  have H1 := Lib.hid ((HR.refl w).new (txC t) 37)
  generalize w.alloc (.cells (txC t) 37) = w1 at H1 ⊢
  generalize hb1 : w.heap.size = b1 at H1 ⊢
  have hbs := Lib.hid hb1
  clear hb1
  go_wp2_with fail
  refine (up19 _).mono ?_
  rintro e w2 ⟨rfl, hb⟩
  have H2 := Lib.hid (H1.out.next hb)
  clear hb H1
  have RT := Lib.hid (H2.out.row (b := b1) (cs := txC t) (t := 37) (by simp))
  go_wp2_with (refine wpList_load_row rfl _ _ rfl b1 rfl 37 (txC t) (0, 0) _ RT.out und rfl sizTX ?_)
  refine (cL.out _).mono ?_
  rintro e w3 ⟨rfl, hb⟩
  have H3 := Lib.hid (H2.out.next hb)
  clear RT hb H2
  go_wp2_with fail
  go_ret
  exact ⟨by simp, H3.out.2⟩
set_option maxRecDepth 100000 in
set_option maxHeartbeats 8000000 in
theorem walkTBN (w : World) (t : TxD) (ao : Option Addr) (len cap : Nat) (m : Int) (h : TxOk t) (hl : t.l0 < 200 ∧ t.l1 < 200) (hm : mayB t = false) (L : List Nat) (x : Hid (B8 len L)) (S : Hid (SlI w.heap.size w ao cap L)) (hl2 : len ≤ 2000) : Calls Try.prog 5 #[txV t, .slice ao len cap, .int .u8 m] w fun e w' => e = .returned (.bool true) ∧ Below w.heap.size w w' := by
  have hq : (decide (t.l0 < 200) && decide (t.l1 < 200)) = true := by rw [decide_eq_true hl.1, decide_eq_true hl.2]; rfl
  have cL := Lib.hid (lLight t)
  rw [hq] at cL
  have cW := Lib.hid (fun W => tWriteN t h hm W)
  clear h hm
  have hl1 : ¬ (2000 : Int) < (len : Int) := by omega
  clear hl hq hl2
  go_enter Try.func5, Try.ntmps5
  have und := Try.underlying37
  go_upto_region 1 with fail
  have H1 := Lib.hid ((HR.refl w).new (txC t) 37)
  generalize w.alloc (.cells (txC t) 37) = w1 at H1 ⊢
  generalize hb1 : w.heap.size = b1 at H1 ⊢
  have hbs := Lib.hid hb1
  clear hb1
  go_wp2_with fail
  refine (up19 _).mono ?_
  rintro e w2 ⟨rfl, hb⟩
  have H2 := Lib.hid (H1.out.next hb)
  clear hb H1
  have RT := Lib.hid (H2.out.row (b := b1) (cs := txC t) (t := 37) (by simp))
  go_wp2_with (refine wpList_load_row rfl _ _ rfl b1 rfl 37 (txC t) (0, 0) _ RT.out und rfl sizTX ?_)
  refine (cL.out _).mono ?_
  rintro e w3 ⟨rfl, hb⟩
  have H3 := Lib.hid (H2.out.next hb)
  clear RT hb H2
  go_wp2_with fail
  refine (tReadO ao len cap L x.out.len x.out.lt _ (S.out.next9 H3.out.2)).mono ?_
  rintro e w5 ⟨Z, E, u, M0, M1, z, g0, g1, z0, z1, rfl, hC, hk, hB, hE, r0, r1, hb⟩
  have HA := Lib.hid (HR.add (HR.add (H3.out.next hb) r0) r1)
  obtain ⟨hZs0, hZ1, hZi⟩ := hE.size
  have hth : (w5.alloc (.cells zC 37)).there w5.heap.size 0 Z.size := by rw [hZs0]; exact Row.newThere w5 zC 37
  have hZs := Lib.hid hZs0
  have fE1 := Lib.hid hE
  have fC1 := Lib.hid hC
  have fk1 := Lib.hid hk
  have fB1 := Lib.hid hB
  have BB := Lib.hid hb
  clear hZs0 hb r0 r1 hE hC hk hB
  go_upto_region 6 with (refine wpList_store_mid rfl _ _ _ rfl w5.heap.size 0 Z rfl rfl hth hZi hZ1 ?_)
  have H6 := Lib.hid (HA.out.fill zC Z 37 hZs.out)
  have BX1 := Lib.hid (((HR.refl _).next BB.out).fill zC Z 37 hZs.out).2
  clear hth hZ1 hZi hZs HA BB
  generalize (w5.alloc (.cells zC 37)).setCells w5.heap.size 0 Z.toList = w6 at H6 BX1 ⊢
  generalize w5.heap.size = b9 at H6 ⊢
  clear H3 BX1
  have hE2 := fE1.out
  have zb0 := fun W (hb : Below w.heap.size w W) => (S.out.next9 hb).convN x.out.len
  replace zb0 := Lib.hid zb0
  rcases hE2 with ⟨_, rfl, rfl⟩ | ⟨_, _, _, rfl, rfl⟩ | ⟨hz1, hmu, hz2, rfl, rfl⟩
  · have hE := fun W => eqN19 W 3
    have H9 : Hid (HR w w6 [(b1, txC t, 37)]) := Lib.hid (HR.sub H6.out (by simp))
    clear H6 fE1 fC1 fk1 fB1
    go_upto_region 10 with fail
    clear hE
    generalize w6 = w9 at H9 ⊢
    have RT := Lib.hid (H9.out.row (b := b1) (cs := txC t) (t := 37) (by simp))
    go_wp2_with (refine wpList_load_row rfl _ _ rfl b1 rfl 37 (txC t) (0, 0) _ RT.out und rfl sizTX ?_)
    refine (cW.out _).mono ?_
    rintro e w11 ⟨rfl, hb⟩
    have H11 := Lib.hid (H9.out.next hb)
    clear RT hb H9
    have hE := neE19 w11 1
    go_wp2_with fail
    go_ret
    exact ⟨by simp, H11.out.2⟩
  · have hE := fun W => eqN19 W 4
    have H9 : Hid (HR w w6 [(b1, txC t, 37)]) := Lib.hid (HR.sub H6.out (by simp))
    clear H6 fE1 fC1 fk1 fB1
    go_upto_region 10 with fail
    clear hE
    generalize w6 = w9 at H9 ⊢
    have RT := Lib.hid (H9.out.row (b := b1) (cs := txC t) (t := 37) (by simp))
    go_wp2_with (refine wpList_load_row rfl _ _ rfl b1 rfl 37 (txC t) (0, 0) _ RT.out und rfl sizTX ?_)
    refine (cW.out _).mono ?_
    rintro e w11 ⟨rfl, hb⟩
    have H11 := Lib.hid (H9.out.next hb)
    clear RT hb H9
    have hE := neE19 w11 1
    go_wp2_with fail
    go_ret
    exact ⟨by simp, H11.out.2⟩
  · have hN := fun W => nilN19 W
    have cU := Lib.hid (tWrite u M0 M1 fk1.out hmu w6 (fB1.out.bods (H6.out.row (b := g0) (cs := z0) (t := 5) (by simp)) (H6.out.row (b := g1) (cs := z1) (t := 5) (by simp))))
    have eL : Hid (wriL u M0 M1 = L) := Lib.hid (by have := rdc_read fC1.out x.out.lt hz1; rw [hz2, List.append_nil] at this; exact this.symm)
    clear hmu hz1 hz2
    have RT := Lib.hid (H6.out.row (b := b9) (cs := txC u) (t := 37) (by simp))
    go_wp2_with (refine wpList_load_row rfl _ _ rfl b9 rfl 37 (txC u) (0, 0) _ RT.out und rfl sizTX ?_)
    refine (cU.out).mono ?_
    rintro e w7 ⟨v, rfl, hO, hb⟩
    have H7 := Lib.hid (H6.out.next hb)
    rw [eL.out] at hO
    obtain ⟨a7, c7, rfl⟩ := own_any9 hO
    have z7 := own_conv9 hO
    have z8 := zb0.out w7 H7.out.2
    have hE := neN19 w7
    rw [x.out.len] at z7 ⊢
    clear hO
    clear RT hb H6
    clear cU eL fE1 fC1 fk1 fB1 hN
    have H9 : Hid (HR w w7 [(b1, txC t, 37)]) := Lib.hid (HR.sub H7.out (by simp))
    clear H7
    go_upto_region 10 with fail
    clear z7 z8 hE
    generalize w7 = w9 at H9 ⊢
    have RT := Lib.hid (H9.out.row (b := b1) (cs := txC t) (t := 37) (by simp))
    go_wp2_with (refine wpList_load_row rfl _ _ rfl b1 rfl 37 (txC t) (0, 0) _ RT.out und rfl sizTX ?_)
    refine (cW.out _).mono ?_
    rintro e w11 ⟨rfl, hb⟩
    have H11 := Lib.hid (H9.out.next hb)
    clear RT hb H9
    have hE := neE19 w11 1
    go_wp2_with fail
    go_ret
    exact ⟨by simp, H11.out.2⟩
set_option maxRecDepth 100000 in
set_option maxHeartbeats 8000000 in
theorem walkTBY (w : World) (t : TxD) (ao : Option Addr) (len cap : Nat) (m : Int) (hm0 : 0 ≤ m ∧ m ≤ 255) (h : TxOk t) (hl : t.l0 < 200 ∧ t.l1 < 200) (hm : mayB t = true) (L0 L1 : List Nat) (x0 : ∀ x ∈ L0, x < 256) (x1 : ∀ x ∈ L1, x < 256) (hB : Bods t L0 L1 w.heap.size w) (L : List Nat) (x : Hid (B8 len L)) (S : Hid (SlI w.heap.size w ao cap L)) (hl2 : len ≤ 2000) : Calls Try.prog 5 #[txV t, .slice ao len cap, .int .u8 m] w fun e w' => e = .returned (.bool true) ∧ Below w.heap.size w w' := by
  have hq : (decide (t.l0 < 200) && decide (t.l1 < 200)) = true := by rw [decide_eq_true hl.1, decide_eq_true hl.2]; rfl
  have cL := Lib.hid (lLight t)
  rw [hq] at cL
  have cW := Lib.hid (fun W hb => tWrite t L0 L1 h hm W (hB.at hb))
  have wl := Lib.hid (wri_lt t x0 x1)
  have ok1 := Lib.hid h
  have ok2 := Lib.hid hm
  have ok3 := Lib.hid (MayI.of hm)
  have ok4 : Hid (L0.length = 32 ∧ L1.length = 32) := Lib.hid ⟨hB.n0.trans ok3.out.l0, hB.n1.trans ok3.out.l1⟩
  have hBo := Lib.hid hB
  have m0 := Lib.hid hm0
  clear h hm x0 x1 hB hm0
  have hl1 : ¬ (2000 : Int) < (len : Int) := by omega
  clear hl hq hl2
  go_enter Try.func5, Try.ntmps5
  have und := Try.underlying37
  go_upto_region 1 with fail
  have H1 := Lib.hid ((HR.refl w).new (txC t) 37)
  generalize w.alloc (.cells (txC t) 37) = w1 at H1 ⊢
  generalize hb1 : w.heap.size = b1 at H1 ⊢
  have hbs := Lib.hid hb1
  clear hb1
  go_wp2_with fail
  refine (up19 _).mono ?_
  rintro e w2 ⟨rfl, hb⟩
  have H2 := Lib.hid (H1.out.next hb)
  clear hb H1
  have RT := Lib.hid (H2.out.row (b := b1) (cs := txC t) (t := 37) (by simp))
  go_wp2_with (refine wpList_load_row rfl _ _ rfl b1 rfl 37 (txC t) (0, 0) _ RT.out und rfl sizTX ?_)
  refine (cL.out _).mono ?_
  rintro e w3 ⟨rfl, hb⟩
  have H3 := Lib.hid (H2.out.next hb)
  clear RT hb H2
  go_wp2_with fail
  refine (tReadO ao len cap L x.out.len x.out.lt _ (S.out.next9 H3.out.2)).mono ?_
  rintro e w5 ⟨Z, E, u, M0, M1, z, g0, g1, z0, z1, rfl, hC, hk, hB, hE, r0, r1, hb⟩
  have HA := Lib.hid (HR.add (HR.add (H3.out.next hb) r0) r1)
  obtain ⟨hZs0, hZ1, hZi⟩ := hE.size
  have hth : (w5.alloc (.cells zC 37)).there w5.heap.size 0 Z.size := by rw [hZs0]; exact Row.newThere w5 zC 37
  have hZs := Lib.hid hZs0
  have fE1 := Lib.hid hE
  have fC1 := Lib.hid hC
  have fk1 := Lib.hid hk
  have fB1 := Lib.hid hB
  have BB := Lib.hid hb
  clear hZs0 hb r0 r1 hE hC hk hB
  go_upto_region 6 with (refine wpList_store_mid rfl _ _ _ rfl w5.heap.size 0 Z rfl rfl hth hZi hZ1 ?_)
  have H6 := Lib.hid (HA.out.fill zC Z 37 hZs.out)
  have BX1 := Lib.hid (((HR.refl _).next BB.out).fill zC Z 37 hZs.out).2
  clear hth hZ1 hZi hZs HA BB
  generalize (w5.alloc (.cells zC 37)).setCells w5.heap.size 0 Z.toList = w6 at H6 BX1 ⊢
  generalize w5.heap.size = b9 at H6 ⊢
  clear H3 BX1
  have hE2 := fE1.out
  have zb0 := fun W (hb : Below w.heap.size w W) => (S.out.next9 hb).convN x.out.len
  replace zb0 := Lib.hid zb0
  rcases hE2 with ⟨_, rfl, rfl⟩ | ⟨_, _, _, rfl, rfl⟩ | ⟨hz1, hmu, hz2, rfl, rfl⟩
  · have hE := fun W => eqN19 W 3
    have H9 : Hid (HR w w6 [(b1, txC t, 37)]) := Lib.hid (HR.sub H6.out (by simp))
    clear H6 fE1 fC1 fk1 fB1
    go_upto_region 10 with fail
    clear hE
    generalize w6 = w9 at H9 ⊢
    have RT := Lib.hid (H9.out.row (b := b1) (cs := txC t) (t := 37) (by simp))
    go_wp2_with (refine wpList_load_row rfl _ _ rfl b1 rfl 37 (txC t) (0, 0) _ RT.out und rfl sizTX ?_)
    refine (cW.out _ H9.out.2).mono ?_
    rintro e w11 ⟨v5, rfl, hO, hb⟩
    have H11 := Lib.hid (H9.out.next hb)
    obtain ⟨n5, hn5⟩ : ∃ z, (wriL t L0 L1).length = z := ⟨_, rfl⟩
    obtain ⟨n6, rfl⟩ : ∃ z, n5 = z + 1 := ⟨n5 - 1, by have := wri_pos t L0 L1; omega⟩
    obtain ⟨g5, c5, rfl⟩ := own_shape hO (fun h => by subst h; have h1 := (OwnB.sl9 hO).1; have := wri_pos t L0 L1; omega)
    rw [hn5] at hO ⊢
    have O5 := Lib.hid hO
    have hle := wri_le t (ok4.out.1) (ok4.out.2)
    have hn6 : n6 ≤ 300 := by omega
    have hc5 : n6 ≤ c5 := by have := own_cap hO; omega
    replace hn5 := Lib.hid hn5
    clear hO hle
    clear RT hb H9
    have hq1 : ((n6 : Int) + 1 == 0) = false := beq_eq_false_iff_ne.2 (by omega)
    have hE1 := neN19 w11
    go_wp2_with fail
    refine (tReadO (some ⟨g5, 0, none⟩) (n6 + 1) c5 (wriL t L0 L1) hn5.out (gd_lt wl.out) _ (OwnB.sl9 O5.out).2).mono ?_
    rintro e w15 ⟨Zc, Ec, v, K0, K1, y, h0, h1, y0, y1, rfl, hC, hk, hB, hE, r0, r1, hb⟩
    have HA := Lib.hid (HR.add (HR.add (H11.out.next hb) r0) r1)
    obtain ⟨hZs0, hZ1, hZi⟩ := hE.size
    have hth : (w15.alloc (.cells zC 37)).there w15.heap.size 0 Zc.size := by rw [hZs0]; exact Row.newThere w15 zC 37
    have hZs := Lib.hid hZs0
    have fE2 := Lib.hid hE
    have fC2 := Lib.hid hC
    have fk2 := Lib.hid hk
    have fB2 := Lib.hid hB
    have BB := Lib.hid hb
    clear hZs0 hb r0 r1 hE hC hk hB
    go_upto_region 16 with (refine wpList_store_mid rfl _ _ _ rfl w15.heap.size 0 Zc rfl rfl hth hZi hZ1 ?_)
    have H16 := Lib.hid (HA.out.fill zC Zc 37 hZs.out)
    have BX2 := Lib.hid (((HR.refl _).next BB.out).fill zC Zc 37 hZs.out).2
    clear hth hZ1 hZi hZs HA BB
    generalize (w15.alloc (.cells zC 37)).setCells w15.heap.size 0 Zc.toList = w16 at H16 BX2 ⊢
    generalize w15.heap.size = b15 at H16 ⊢
    clear hE1 H11
    have hbk := rdc_back (r := []) (by rw [List.append_nil]) ok1.out ok3.out ok4.out.1 ok4.out.2 fC2.out
    obtain ⟨hal, hK0, hK1, hy⟩ := hbk
    have hmv : mayB v = true := (hal.may (fB2.out.l0.trans ok3.out.l0.symm) (fB2.out.l1.trans ok3.out.l1.symm)).trans ok2.out
    obtain ⟨hZc, hEc⟩ := fE2.out.good hmv hy
    subst hEc hZc
    replace hal := Lib.hid hal
    rw [hK0, hK1] at fB2 fC2
    clear hK0 hK1
    have O6 := Lib.hid (O5.out.below BX2.out)
    have HS2 : Hid (HR w w16 [(b15, txC v, 37), (h1, y1, 5), (h0, y0, 5), (b1, txC t, 37)]) := H16
    clear H16 O5 fE2 hmv hy BX2
    obtain ⟨g8, c8, w17, hap, hO17, hb17⟩ := append_copy w16 (some ⟨g5, 0, none⟩) (n6 + 1) c5 (wriL t L0 L1) hn5.out (by omega) (fun h => by cases h) (fun _ => ⟨g5, 0, rfl, own_blz O6.out hn5.out⟩)
    obtain ⟨v8, w18, hap2, hO18, hb18, _, _⟩ := append_ownB (w17.alloc (.cells #[.int .u8 m] 5)) w16.heap.size _ (wriL t L0 L1) [m.toNat] (hO17.below (bAlloc (Below.refl _ _) _)) ⟨w17.heap.size, 0, none⟩ 1 1 rfl (newsB9 w17 m m0.out.1) (by rw [hn5.out]; simp; omega) (by have := hb17.size; simp; omega)
    obtain ⟨a8, c9, rfl⟩ := own_any9 hO18
    obtain ⟨n8, hn8⟩ : ∃ z, (wriL t L0 L1 ++ [m.toNat]).length = z := ⟨_, rfl⟩
    rw [hn8] at hap2 hO18
    have hb8 : Below w16.heap.size w16 w18 := (bAlloc hb17 _).trans hb18
    have H18 := Lib.hid (HS2.out.next hb8)
    have O8 := Lib.hid (O6.out.below hb8)
    have OA := Lib.hid hO18
    replace hn8 := Lib.hid hn8
    clear HS2 O6 hO17 hO18 hb17 hb18 hb8
    go_wp2_with (at_builtin; first | (refine wpList_appended rfl _ _ _ _ rfl _ _ _ rfl rfl hap ?_) | (refine wpList_appended rfl _ _ _ _ rfl _ _ _ rfl rfl hap2 ?_))
    refine (tReadO a8 n8 c9 (wriL t L0 L1 ++ [m.toNat]) hn8.out (gd_lt (app_lt wl.out (fun x hx => by simp at hx; have := m0.out; omega))) _ (OwnB.sl9 OA.out).2).mono ?_
    rintro e w19 ⟨Zd, Ed, p, P0, P1, q, i0, i1, q0, q1, rfl, hC, hk, hB, hE, r0, r1, hb⟩
    have HA := Lib.hid (HR.add (HR.add (H18.out.next hb) r0) r1)
    obtain ⟨hZs0, hZ1, hZi⟩ := hE.size
    have hth : (w19.alloc (.cells zC 37)).there w19.heap.size 0 Zd.size := by rw [hZs0]; exact Row.newThere w19 zC 37
    have hZs := Lib.hid hZs0
    have fE3 := Lib.hid hE
    have fC3 := Lib.hid hC
    have fk3 := Lib.hid hk
    have fB3 := Lib.hid hB
    have BB := Lib.hid hb
    clear hZs0 hb r0 r1 hE hC hk hB
    go_upto_region 17 with (refine wpList_store_mid rfl _ _ _ rfl w19.heap.size 0 Zd rfl rfl hth hZi hZ1 ?_)
    have H20 := Lib.hid (HA.out.fill zC Zd 37 hZs.out)
    have BX3 := Lib.hid (((HR.refl _).next BB.out).fill zC Zd 37 hZs.out).2
    clear hth hZ1 hZi hZs HA BB
    generalize (w19.alloc (.cells zC 37)).setCells w19.heap.size 0 Zd.toList = w20 at H20 BX3 ⊢
    generalize w19.heap.size = b17 at H20 ⊢
    clear hap hap2 H18 OA
    have hbk := rdc_back (r := [m.toNat]) rfl ok1.out ok3.out ok4.out.1 ok4.out.2 fC3.out
    have hmv : mayB p = true := (hbk.1.may (fB3.out.l0.trans ok3.out.l0.symm) (fB3.out.l1.trans ok3.out.l1.symm)).trans ok2.out
    obtain rfl := fE3.out.more hmv hbk.2.2.2
    have O9 := Lib.hid (O8.out.below BX3.out)
    have HS3 : Hid (HR w w20 [(b15, txC v, 37), (h1, y1, 5), (h0, y0, 5), (b1, txC t, 37)]) := Lib.hid (HR.sub H20.out (by simp))
    clear H20 O8 BX3 hbk hmv fE3 fC3 fB3 fk3
    have hsl := fun W => slice_hi g5 (n6 + 1) c5 n6 hc5 W
    have htk : Hid (((wriL t L0 L1).take n6).length = n6) := Lib.hid (by rw [List.length_take, hn5.out]; omega)
    have sl6 : Hid (SlI w20.heap.size w20 (some ⟨g5, 0, none⟩) c5 ((wriL t L0 L1).take n6)) := Lib.hid ⟨by rw [htk.out]; exact hc5, (own_cap O9.out).2, (fun h => by cases h), fun _ => ⟨g5, 0, rfl, own_lt O9.out, fun i hi => by
      have hi6 : i < n6 := by rw [htk.out] at hi; exact hi
      have := own_blz O9.out hn5.out i (by rw [hn5.out]; omega)
      rw [this, List.getD_eq_getElem?_getD, List.getD_eq_getElem?_getD, List.getElem?_take, if_pos hi6]⟩⟩
    clear hc5
    go_wp2_with fail
    refine (tReadO (some ⟨g5, 0, none⟩) n6 c5 ((wriL t L0 L1).take n6) htk.out (fun i => by rw [List.getD_eq_getElem?_getD, List.getElem?_take]; split; (have := gd_lt wl.out i; rwa [List.getD_eq_getElem?_getD] at this); simp) _ sl6.out).mono ?_
    rintro e w21 ⟨Ze, Ee, r, R0, R1, s, j0, j1, r2, r3, rfl, hC, hk, hB, hE, r0, r1, hb⟩
    have HA := Lib.hid (HR.add (HR.add (HS3.out.next hb) r0) r1)
    obtain ⟨hZs0, hZ1, hZi⟩ := hE.size
    have hth : (w21.alloc (.cells zC 37)).there w21.heap.size 0 Ze.size := by rw [hZs0]; exact Row.newThere w21 zC 37
    have hZs := Lib.hid hZs0
    have fE4 := Lib.hid hE
    have fC4 := Lib.hid hC
    have fk4 := Lib.hid hk
    have fB4 := Lib.hid hB
    have BB := Lib.hid hb
    clear hZs0 hb r0 r1 hE hC hk hB
    go_upto_region 18 with (refine wpList_store_mid rfl _ _ _ rfl w21.heap.size 0 Ze rfl rfl hth hZi hZ1 ?_)
    have H22 := Lib.hid (HA.out.fill zC Ze 37 hZs.out)
    have BX4 := Lib.hid (((HR.refl _).next BB.out).fill zC Ze 37 hZs.out).2
    clear hth hZ1 hZi hZs HA BB
    generalize (w21.alloc (.cells zC 37)).setCells w21.heap.size 0 Ze.toList = w22 at H22 BX4 ⊢
    generalize w21.heap.size = b19 at H22 ⊢
    clear hsl HS3 O9
    have hless := RdC.less rfl ok1.out ok3.out ok4.out.1 ok4.out.2 fC2.out (gd_lt wl.out) n6 (by rw [hn5.out]; omega) fC4.out fk4.out fB4.out.m0 fB4.out.m1
    obtain rfl := fE4.out.less hless
    have HS4 : Hid (HR w w22 [(b15, txC v, 37), (h1, y1, 5), (h0, y0, 5), (b1, txC t, 37)]) := Lib.hid (HR.sub H22.out (by simp))
    clear H22 hless fE4 fC4 fB4 fk4 BX4 fC2 fk2
    have cS0 : Calls Try.prog 18 #[txV v, txV t] w22 fun e w' => e = .returned (.bool true) ∧ Below w22.heap.size w22 w' := by
      have e := hal.out.symm.eq
      rw [e]
      have bv := fB2.out.bods (HS4.out.row (b := h0) (cs := y0) (t := 5) (by simp)) (HS4.out.row (b := h1) (cs := y1) (t := 5) (by simp))
      have bt := hBo.out.at HS4.out.2
      exact lSame v t.s0 t.l0 t.c0 t.s1 t.l1 t.c1 _ _ w22 ⟨bv.n0, bv.n1, bt.n0, bt.n1⟩ bv.b0 bv.b1 bt.b0 bt.b1
    have cS := Lib.hid cS0
    clear cS0
    have hN := fun W => nilN19 W
    have hE3 := fun W => eq19 W 3 3
    have hE4 := fun W => eq19 W 4 4
    have RT := Lib.hid (HS4.out.row (b := b1) (cs := txC t) (t := 37) (by simp))
    have RV := Lib.hid (HS4.out.row (b := b15) (cs := txC v) (t := 37) (by simp))
    go_wp2_with (first | (refine wpList_load_on rfl _ _ rfl b15 rfl 37 (txC v) (0, 0) _ RV.out und rfl sizTX ?_) | (refine wpList_load_on rfl _ _ rfl b1 rfl 37 (txC t) (0, 0) _ RT.out und rfl sizTX ?_))
    refine cS.out.mono ?_
    rintro e w23 ⟨rfl, hb⟩
    have H23 := Lib.hid (HS4.out.next hb)
    clear hb HS4 RT RV cS
    go_wp2_with fail
    go_ret
    exact ⟨by simp, H23.out.2⟩
  · have hE := fun W => eqN19 W 4
    have H9 : Hid (HR w w6 [(b1, txC t, 37)]) := Lib.hid (HR.sub H6.out (by simp))
    clear H6 fE1 fC1 fk1 fB1
    go_upto_region 10 with fail
    clear hE
    generalize w6 = w9 at H9 ⊢
    have RT := Lib.hid (H9.out.row (b := b1) (cs := txC t) (t := 37) (by simp))
    go_wp2_with (refine wpList_load_row rfl _ _ rfl b1 rfl 37 (txC t) (0, 0) _ RT.out und rfl sizTX ?_)
    refine (cW.out _ H9.out.2).mono ?_
    rintro e w11 ⟨v5, rfl, hO, hb⟩
    have H11 := Lib.hid (H9.out.next hb)
    obtain ⟨n5, hn5⟩ : ∃ z, (wriL t L0 L1).length = z := ⟨_, rfl⟩
    obtain ⟨n6, rfl⟩ : ∃ z, n5 = z + 1 := ⟨n5 - 1, by have := wri_pos t L0 L1; omega⟩
    obtain ⟨g5, c5, rfl⟩ := own_shape hO (fun h => by subst h; have h1 := (OwnB.sl9 hO).1; have := wri_pos t L0 L1; omega)
    rw [hn5] at hO ⊢
    have O5 := Lib.hid hO
    have hle := wri_le t (ok4.out.1) (ok4.out.2)
    have hn6 : n6 ≤ 300 := by omega
    have hc5 : n6 ≤ c5 := by have := own_cap hO; omega
    replace hn5 := Lib.hid hn5
    clear hO hle
    clear RT hb H9
    have hq1 : ((n6 : Int) + 1 == 0) = false := beq_eq_false_iff_ne.2 (by omega)
    have hE1 := neN19 w11
    go_wp2_with fail
    refine (tReadO (some ⟨g5, 0, none⟩) (n6 + 1) c5 (wriL t L0 L1) hn5.out (gd_lt wl.out) _ (OwnB.sl9 O5.out).2).mono ?_
    rintro e w15 ⟨Zc, Ec, v, K0, K1, y, h0, h1, y0, y1, rfl, hC, hk, hB, hE, r0, r1, hb⟩
    have HA := Lib.hid (HR.add (HR.add (H11.out.next hb) r0) r1)
    obtain ⟨hZs0, hZ1, hZi⟩ := hE.size
    have hth : (w15.alloc (.cells zC 37)).there w15.heap.size 0 Zc.size := by rw [hZs0]; exact Row.newThere w15 zC 37
    have hZs := Lib.hid hZs0
    have fE2 := Lib.hid hE
    have fC2 := Lib.hid hC
    have fk2 := Lib.hid hk
    have fB2 := Lib.hid hB
    have BB := Lib.hid hb
    clear hZs0 hb r0 r1 hE hC hk hB
    go_upto_region 16 with (refine wpList_store_mid rfl _ _ _ rfl w15.heap.size 0 Zc rfl rfl hth hZi hZ1 ?_)
    have H16 := Lib.hid (HA.out.fill zC Zc 37 hZs.out)
    have BX2 := Lib.hid (((HR.refl _).next BB.out).fill zC Zc 37 hZs.out).2
    clear hth hZ1 hZi hZs HA BB
    generalize (w15.alloc (.cells zC 37)).setCells w15.heap.size 0 Zc.toList = w16 at H16 BX2 ⊢
    generalize w15.heap.size = b15 at H16 ⊢
    clear hE1 H11
    have hbk := rdc_back (r := []) (by rw [List.append_nil]) ok1.out ok3.out ok4.out.1 ok4.out.2 fC2.out
    obtain ⟨hal, hK0, hK1, hy⟩ := hbk
    have hmv : mayB v = true := (hal.may (fB2.out.l0.trans ok3.out.l0.symm) (fB2.out.l1.trans ok3.out.l1.symm)).trans ok2.out
    obtain ⟨hZc, hEc⟩ := fE2.out.good hmv hy
    subst hEc hZc
    replace hal := Lib.hid hal
    rw [hK0, hK1] at fB2 fC2
    clear hK0 hK1
    have O6 := Lib.hid (O5.out.below BX2.out)
    have HS2 : Hid (HR w w16 [(b15, txC v, 37), (h1, y1, 5), (h0, y0, 5), (b1, txC t, 37)]) := H16
    clear H16 O5 fE2 hmv hy BX2
    obtain ⟨g8, c8, w17, hap, hO17, hb17⟩ := append_copy w16 (some ⟨g5, 0, none⟩) (n6 + 1) c5 (wriL t L0 L1) hn5.out (by omega) (fun h => by cases h) (fun _ => ⟨g5, 0, rfl, own_blz O6.out hn5.out⟩)
    obtain ⟨v8, w18, hap2, hO18, hb18, _, _⟩ := append_ownB (w17.alloc (.cells #[.int .u8 m] 5)) w16.heap.size _ (wriL t L0 L1) [m.toNat] (hO17.below (bAlloc (Below.refl _ _) _)) ⟨w17.heap.size, 0, none⟩ 1 1 rfl (newsB9 w17 m m0.out.1) (by rw [hn5.out]; simp; omega) (by have := hb17.size; simp; omega)
    obtain ⟨a8, c9, rfl⟩ := own_any9 hO18
    obtain ⟨n8, hn8⟩ : ∃ z, (wriL t L0 L1 ++ [m.toNat]).length = z := ⟨_, rfl⟩
    rw [hn8] at hap2 hO18
    have hb8 : Below w16.heap.size w16 w18 := (bAlloc hb17 _).trans hb18
    have H18 := Lib.hid (HS2.out.next hb8)
    have O8 := Lib.hid (O6.out.below hb8)
    have OA := Lib.hid hO18
    replace hn8 := Lib.hid hn8
    clear HS2 O6 hO17 hO18 hb17 hb18 hb8
    go_wp2_with (at_builtin; first | (refine wpList_appended rfl _ _ _ _ rfl _ _ _ rfl rfl hap ?_) | (refine wpList_appended rfl _ _ _ _ rfl _ _ _ rfl rfl hap2 ?_))
    refine (tReadO a8 n8 c9 (wriL t L0 L1 ++ [m.toNat]) hn8.out (gd_lt (app_lt wl.out (fun x hx => by simp at hx; have := m0.out; omega))) _ (OwnB.sl9 OA.out).2).mono ?_
    rintro e w19 ⟨Zd, Ed, p, P0, P1, q, i0, i1, q0, q1, rfl, hC, hk, hB, hE, r0, r1, hb⟩
    have HA := Lib.hid (HR.add (HR.add (H18.out.next hb) r0) r1)
    obtain ⟨hZs0, hZ1, hZi⟩ := hE.size
    have hth : (w19.alloc (.cells zC 37)).there w19.heap.size 0 Zd.size := by rw [hZs0]; exact Row.newThere w19 zC 37
    have hZs := Lib.hid hZs0
    have fE3 := Lib.hid hE
    have fC3 := Lib.hid hC
    have fk3 := Lib.hid hk
    have fB3 := Lib.hid hB
    have BB := Lib.hid hb
    clear hZs0 hb r0 r1 hE hC hk hB
    go_upto_region 17 with (refine wpList_store_mid rfl _ _ _ rfl w19.heap.size 0 Zd rfl rfl hth hZi hZ1 ?_)
    have H20 := Lib.hid (HA.out.fill zC Zd 37 hZs.out)
    have BX3 := Lib.hid (((HR.refl _).next BB.out).fill zC Zd 37 hZs.out).2
    clear hth hZ1 hZi hZs HA BB
    generalize (w19.alloc (.cells zC 37)).setCells w19.heap.size 0 Zd.toList = w20 at H20 BX3 ⊢
    generalize w19.heap.size = b17 at H20 ⊢
    clear hap hap2 H18 OA
    have hbk := rdc_back (r := [m.toNat]) rfl ok1.out ok3.out ok4.out.1 ok4.out.2 fC3.out
    have hmv : mayB p = true := (hbk.1.may (fB3.out.l0.trans ok3.out.l0.symm) (fB3.out.l1.trans ok3.out.l1.symm)).trans ok2.out
    obtain rfl := fE3.out.more hmv hbk.2.2.2
    have O9 := Lib.hid (O8.out.below BX3.out)
    have HS3 : Hid (HR w w20 [(b15, txC v, 37), (h1, y1, 5), (h0, y0, 5), (b1, txC t, 37)]) := Lib.hid (HR.sub H20.out (by simp))
    clear H20 O8 BX3 hbk hmv fE3 fC3 fB3 fk3
    have hsl := fun W => slice_hi g5 (n6 + 1) c5 n6 hc5 W
    have htk : Hid (((wriL t L0 L1).take n6).length = n6) := Lib.hid (by rw [List.length_take, hn5.out]; omega)
    have sl6 : Hid (SlI w20.heap.size w20 (some ⟨g5, 0, none⟩) c5 ((wriL t L0 L1).take n6)) := Lib.hid ⟨by rw [htk.out]; exact hc5, (own_cap O9.out).2, (fun h => by cases h), fun _ => ⟨g5, 0, rfl, own_lt O9.out, fun i hi => by
      have hi6 : i < n6 := by rw [htk.out] at hi; exact hi
      have := own_blz O9.out hn5.out i (by rw [hn5.out]; omega)
      rw [this, List.getD_eq_getElem?_getD, List.getD_eq_getElem?_getD, List.getElem?_take, if_pos hi6]⟩⟩
    clear hc5
    go_wp2_with fail
    refine (tReadO (some ⟨g5, 0, none⟩) n6 c5 ((wriL t L0 L1).take n6) htk.out (fun i => by rw [List.getD_eq_getElem?_getD, List.getElem?_take]; split; (have := gd_lt wl.out i; rwa [List.getD_eq_getElem?_getD] at this); simp) _ sl6.out).mono ?_
    rintro e w21 ⟨Ze, Ee, r, R0, R1, s, j0, j1, r2, r3, rfl, hC, hk, hB, hE, r0, r1, hb⟩
    have HA := Lib.hid (HR.add (HR.add (HS3.out.next hb) r0) r1)
    obtain ⟨hZs0, hZ1, hZi⟩ := hE.size
    have hth : (w21.alloc (.cells zC 37)).there w21.heap.size 0 Ze.size := by rw [hZs0]; exact Row.newThere w21 zC 37
    have hZs := Lib.hid hZs0
    have fE4 := Lib.hid hE
    have fC4 := Lib.hid hC
    have fk4 := Lib.hid hk
    have fB4 := Lib.hid hB
    have BB := Lib.hid hb
    clear hZs0 hb r0 r1 hE hC hk hB
    go_upto_region 18 with (refine wpList_store_mid rfl _ _ _ rfl w21.heap.size 0 Ze rfl rfl hth hZi hZ1 ?_)
    have H22 := Lib.hid (HA.out.fill zC Ze 37 hZs.out)
    have BX4 := Lib.hid (((HR.refl _).next BB.out).fill zC Ze 37 hZs.out).2
    clear hth hZ1 hZi hZs HA BB
    generalize (w21.alloc (.cells zC 37)).setCells w21.heap.size 0 Ze.toList = w22 at H22 BX4 ⊢
    generalize w21.heap.size = b19 at H22 ⊢
    clear hsl HS3 O9
    have hless := RdC.less rfl ok1.out ok3.out ok4.out.1 ok4.out.2 fC2.out (gd_lt wl.out) n6 (by rw [hn5.out]; omega) fC4.out fk4.out fB4.out.m0 fB4.out.m1
    obtain rfl := fE4.out.less hless
    have HS4 : Hid (HR w w22 [(b15, txC v, 37), (h1, y1, 5), (h0, y0, 5), (b1, txC t, 37)]) := Lib.hid (HR.sub H22.out (by simp))
    clear H22 hless fE4 fC4 fB4 fk4 BX4 fC2 fk2
    have cS0 : Calls Try.prog 18 #[txV v, txV t] w22 fun e w' => e = .returned (.bool true) ∧ Below w22.heap.size w22 w' := by
      have e := hal.out.symm.eq
      rw [e]
      have bv := fB2.out.bods (HS4.out.row (b := h0) (cs := y0) (t := 5) (by simp)) (HS4.out.row (b := h1) (cs := y1) (t := 5) (by simp))
      have bt := hBo.out.at HS4.out.2
      exact lSame v t.s0 t.l0 t.c0 t.s1 t.l1 t.c1 _ _ w22 ⟨bv.n0, bv.n1, bt.n0, bt.n1⟩ bv.b0 bv.b1 bt.b0 bt.b1
    have cS := Lib.hid cS0
    clear cS0
    have hN := fun W => nilN19 W
    have hE3 := fun W => eq19 W 3 3
    have hE4 := fun W => eq19 W 4 4
    have RT := Lib.hid (HS4.out.row (b := b1) (cs := txC t) (t := 37) (by simp))
    have RV := Lib.hid (HS4.out.row (b := b15) (cs := txC v) (t := 37) (by simp))
    go_wp2_with (first | (refine wpList_load_on rfl _ _ rfl b15 rfl 37 (txC v) (0, 0) _ RV.out und rfl sizTX ?_) | (refine wpList_load_on rfl _ _ rfl b1 rfl 37 (txC t) (0, 0) _ RT.out und rfl sizTX ?_))
    refine cS.out.mono ?_
    rintro e w23 ⟨rfl, hb⟩
    have H23 := Lib.hid (HS4.out.next hb)
    clear hb HS4 RT RV cS
    go_wp2_with fail
    go_ret
    exact ⟨by simp, H23.out.2⟩
  · have hN := fun W => nilN19 W
    have cU := Lib.hid (tWrite u M0 M1 fk1.out hmu w6 (fB1.out.bods (H6.out.row (b := g0) (cs := z0) (t := 5) (by simp)) (H6.out.row (b := g1) (cs := z1) (t := 5) (by simp))))
    have eL : Hid (wriL u M0 M1 = L) := Lib.hid (by have := rdc_read fC1.out x.out.lt hz1; rw [hz2, List.append_nil] at this; exact this.symm)
    clear hmu hz1 hz2
    have RT := Lib.hid (H6.out.row (b := b9) (cs := txC u) (t := 37) (by simp))
    go_wp2_with (refine wpList_load_row rfl _ _ rfl b9 rfl 37 (txC u) (0, 0) _ RT.out und rfl sizTX ?_)
    refine (cU.out).mono ?_
    rintro e w7 ⟨v, rfl, hO, hb⟩
    have H7 := Lib.hid (H6.out.next hb)
    rw [eL.out] at hO
    obtain ⟨a7, c7, rfl⟩ := own_any9 hO
    have z7 := own_conv9 hO
    have z8 := zb0.out w7 H7.out.2
    have hE := neN19 w7
    rw [x.out.len] at z7 ⊢
    clear hO
    clear RT hb H6
    clear cU eL fE1 fC1 fk1 fB1 hN
    have H9 : Hid (HR w w7 [(b1, txC t, 37)]) := Lib.hid (HR.sub H7.out (by simp))
    clear H7
    go_upto_region 10 with fail
    clear z7 z8 hE
    generalize w7 = w9 at H9 ⊢
    have RT := Lib.hid (H9.out.row (b := b1) (cs := txC t) (t := 37) (by simp))
    go_wp2_with (refine wpList_load_row rfl _ _ rfl b1 rfl 37 (txC t) (0, 0) _ RT.out und rfl sizTX ?_)
    refine (cW.out _ H9.out.2).mono ?_
    rintro e w11 ⟨v5, rfl, hO, hb⟩
    have H11 := Lib.hid (H9.out.next hb)
    obtain ⟨n5, hn5⟩ : ∃ z, (wriL t L0 L1).length = z := ⟨_, rfl⟩
    obtain ⟨n6, rfl⟩ : ∃ z, n5 = z + 1 := ⟨n5 - 1, by have := wri_pos t L0 L1; omega⟩
    obtain ⟨g5, c5, rfl⟩ := own_shape hO (fun h => by subst h; have h1 := (OwnB.sl9 hO).1; have := wri_pos t L0 L1; omega)
    rw [hn5] at hO ⊢
    have O5 := Lib.hid hO
    have hle := wri_le t (ok4.out.1) (ok4.out.2)
    have hn6 : n6 ≤ 300 := by omega
    have hc5 : n6 ≤ c5 := by have := own_cap hO; omega
    replace hn5 := Lib.hid hn5
    clear hO hle
    clear RT hb H9
    have hq1 : ((n6 : Int) + 1 == 0) = false := beq_eq_false_iff_ne.2 (by omega)
    have hE1 := neN19 w11
    go_wp2_with fail
    refine (tReadO (some ⟨g5, 0, none⟩) (n6 + 1) c5 (wriL t L0 L1) hn5.out (gd_lt wl.out) _ (OwnB.sl9 O5.out).2).mono ?_
    rintro e w15 ⟨Zc, Ec, v, K0, K1, y, h0, h1, y0, y1, rfl, hC, hk, hB, hE, r0, r1, hb⟩
    have HA := Lib.hid (HR.add (HR.add (H11.out.next hb) r0) r1)
    obtain ⟨hZs0, hZ1, hZi⟩ := hE.size
    have hth : (w15.alloc (.cells zC 37)).there w15.heap.size 0 Zc.size := by rw [hZs0]; exact Row.newThere w15 zC 37
    have hZs := Lib.hid hZs0
    have fE2 := Lib.hid hE
    have fC2 := Lib.hid hC
    have fk2 := Lib.hid hk
    have fB2 := Lib.hid hB
    have BB := Lib.hid hb
    clear hZs0 hb r0 r1 hE hC hk hB
    go_upto_region 16 with (refine wpList_store_mid rfl _ _ _ rfl w15.heap.size 0 Zc rfl rfl hth hZi hZ1 ?_)
    have H16 := Lib.hid (HA.out.fill zC Zc 37 hZs.out)
    have BX2 := Lib.hid (((HR.refl _).next BB.out).fill zC Zc 37 hZs.out).2
    clear hth hZ1 hZi hZs HA BB
    generalize (w15.alloc (.cells zC 37)).setCells w15.heap.size 0 Zc.toList = w16 at H16 BX2 ⊢
    generalize w15.heap.size = b15 at H16 ⊢
    clear hE1 H11
    have hbk := rdc_back (r := []) (by rw [List.append_nil]) ok1.out ok3.out ok4.out.1 ok4.out.2 fC2.out
    obtain ⟨hal, hK0, hK1, hy⟩ := hbk
    have hmv : mayB v = true := (hal.may (fB2.out.l0.trans ok3.out.l0.symm) (fB2.out.l1.trans ok3.out.l1.symm)).trans ok2.out
    obtain ⟨hZc, hEc⟩ := fE2.out.good hmv hy
    subst hEc hZc
    replace hal := Lib.hid hal
    rw [hK0, hK1] at fB2 fC2
    clear hK0 hK1
    have O6 := Lib.hid (O5.out.below BX2.out)
    have HS2 : Hid (HR w w16 [(b15, txC v, 37), (h1, y1, 5), (h0, y0, 5), (b1, txC t, 37)]) := H16
    clear H16 O5 fE2 hmv hy BX2
    obtain ⟨g8, c8, w17, hap, hO17, hb17⟩ := append_copy w16 (some ⟨g5, 0, none⟩) (n6 + 1) c5 (wriL t L0 L1) hn5.out (by omega) (fun h => by cases h) (fun _ => ⟨g5, 0, rfl, own_blz O6.out hn5.out⟩)
    obtain ⟨v8, w18, hap2, hO18, hb18, _, _⟩ := append_ownB (w17.alloc (.cells #[.int .u8 m] 5)) w16.heap.size _ (wriL t L0 L1) [m.toNat] (hO17.below (bAlloc (Below.refl _ _) _)) ⟨w17.heap.size, 0, none⟩ 1 1 rfl (newsB9 w17 m m0.out.1) (by rw [hn5.out]; simp; omega) (by have := hb17.size; simp; omega)
    obtain ⟨a8, c9, rfl⟩ := own_any9 hO18
    obtain ⟨n8, hn8⟩ : ∃ z, (wriL t L0 L1 ++ [m.toNat]).length = z := ⟨_, rfl⟩
    rw [hn8] at hap2 hO18
    have hb8 : Below w16.heap.size w16 w18 := (bAlloc hb17 _).trans hb18
    have H18 := Lib.hid (HS2.out.next hb8)
    have O8 := Lib.hid (O6.out.below hb8)
    have OA := Lib.hid hO18
    replace hn8 := Lib.hid hn8
    clear HS2 O6 hO17 hO18 hb17 hb18 hb8
    go_wp2_with (at_builtin; first | (refine wpList_appended rfl _ _ _ _ rfl _ _ _ rfl rfl hap ?_) | (refine wpList_appended rfl _ _ _ _ rfl _ _ _ rfl rfl hap2 ?_))
    refine (tReadO a8 n8 c9 (wriL t L0 L1 ++ [m.toNat]) hn8.out (gd_lt (app_lt wl.out (fun x hx => by simp at hx; have := m0.out; omega))) _ (OwnB.sl9 OA.out).2).mono ?_
    rintro e w19 ⟨Zd, Ed, p, P0, P1, q, i0, i1, q0, q1, rfl, hC, hk, hB, hE, r0, r1, hb⟩
    have HA := Lib.hid (HR.add (HR.add (H18.out.next hb) r0) r1)
    obtain ⟨hZs0, hZ1, hZi⟩ := hE.size
    have hth : (w19.alloc (.cells zC 37)).there w19.heap.size 0 Zd.size := by rw [hZs0]; exact Row.newThere w19 zC 37
    have hZs := Lib.hid hZs0
    have fE3 := Lib.hid hE
    have fC3 := Lib.hid hC
    have fk3 := Lib.hid hk
    have fB3 := Lib.hid hB
    have BB := Lib.hid hb
    clear hZs0 hb r0 r1 hE hC hk hB
    go_upto_region 17 with (refine wpList_store_mid rfl _ _ _ rfl w19.heap.size 0 Zd rfl rfl hth hZi hZ1 ?_)
    have H20 := Lib.hid (HA.out.fill zC Zd 37 hZs.out)
    have BX3 := Lib.hid (((HR.refl _).next BB.out).fill zC Zd 37 hZs.out).2
    clear hth hZ1 hZi hZs HA BB
    generalize (w19.alloc (.cells zC 37)).setCells w19.heap.size 0 Zd.toList = w20 at H20 BX3 ⊢
    generalize w19.heap.size = b17 at H20 ⊢
    clear hap hap2 H18 OA
    have hbk := rdc_back (r := [m.toNat]) rfl ok1.out ok3.out ok4.out.1 ok4.out.2 fC3.out
    have hmv : mayB p = true := (hbk.1.may (fB3.out.l0.trans ok3.out.l0.symm) (fB3.out.l1.trans ok3.out.l1.symm)).trans ok2.out
    obtain rfl := fE3.out.more hmv hbk.2.2.2
    have O9 := Lib.hid (O8.out.below BX3.out)
    have HS3 : Hid (HR w w20 [(b15, txC v, 37), (h1, y1, 5), (h0, y0, 5), (b1, txC t, 37)]) := Lib.hid (HR.sub H20.out (by simp))
    clear H20 O8 BX3 hbk hmv fE3 fC3 fB3 fk3
    have hsl := fun W => slice_hi g5 (n6 + 1) c5 n6 hc5 W
    have htk : Hid (((wriL t L0 L1).take n6).length = n6) := Lib.hid (by rw [List.length_take, hn5.out]; omega)
    have sl6 : Hid (SlI w20.heap.size w20 (some ⟨g5, 0, none⟩) c5 ((wriL t L0 L1).take n6)) := Lib.hid ⟨by rw [htk.out]; exact hc5, (own_cap O9.out).2, (fun h => by cases h), fun _ => ⟨g5, 0, rfl, own_lt O9.out, fun i hi => by
      have hi6 : i < n6 := by rw [htk.out] at hi; exact hi
      have := own_blz O9.out hn5.out i (by rw [hn5.out]; omega)
      rw [this, List.getD_eq_getElem?_getD, List.getD_eq_getElem?_getD, List.getElem?_take, if_pos hi6]⟩⟩
    clear hc5
    go_wp2_with fail
    refine (tReadO (some ⟨g5, 0, none⟩) n6 c5 ((wriL t L0 L1).take n6) htk.out (fun i => by rw [List.getD_eq_getElem?_getD, List.getElem?_take]; split; (have := gd_lt wl.out i; rwa [List.getD_eq_getElem?_getD] at this); simp) _ sl6.out).mono ?_
    rintro e w21 ⟨Ze, Ee, r, R0, R1, s, j0, j1, r2, r3, rfl, hC, hk, hB, hE, r0, r1, hb⟩
    have HA := Lib.hid (HR.add (HR.add (HS3.out.next hb) r0) r1)
    obtain ⟨hZs0, hZ1, hZi⟩ := hE.size
    have hth : (w21.alloc (.cells zC 37)).there w21.heap.size 0 Ze.size := by rw [hZs0]; exact Row.newThere w21 zC 37
    have hZs := Lib.hid hZs0
    have fE4 := Lib.hid hE
    have fC4 := Lib.hid hC
    have fk4 := Lib.hid hk
    have fB4 := Lib.hid hB
    have BB := Lib.hid hb
    clear hZs0 hb r0 r1 hE hC hk hB
    go_upto_region 18 with (refine wpList_store_mid rfl _ _ _ rfl w21.heap.size 0 Ze rfl rfl hth hZi hZ1 ?_)
    have H22 := Lib.hid (HA.out.fill zC Ze 37 hZs.out)
    have BX4 := Lib.hid (((HR.refl _).next BB.out).fill zC Ze 37 hZs.out).2
    clear hth hZ1 hZi hZs HA BB
    generalize (w21.alloc (.cells zC 37)).setCells w21.heap.size 0 Ze.toList = w22 at H22 BX4 ⊢
    generalize w21.heap.size = b19 at H22 ⊢
    clear hsl HS3 O9
    have hless := RdC.less rfl ok1.out ok3.out ok4.out.1 ok4.out.2 fC2.out (gd_lt wl.out) n6 (by rw [hn5.out]; omega) fC4.out fk4.out fB4.out.m0 fB4.out.m1
    obtain rfl := fE4.out.less hless
    have HS4 : Hid (HR w w22 [(b15, txC v, 37), (h1, y1, 5), (h0, y0, 5), (b1, txC t, 37)]) := Lib.hid (HR.sub H22.out (by simp))
    clear H22 hless fE4 fC4 fB4 fk4 BX4 fC2 fk2
    have cS0 : Calls Try.prog 18 #[txV v, txV t] w22 fun e w' => e = .returned (.bool true) ∧ Below w22.heap.size w22 w' := by
      have e := hal.out.symm.eq
      rw [e]
      have bv := fB2.out.bods (HS4.out.row (b := h0) (cs := y0) (t := 5) (by simp)) (HS4.out.row (b := h1) (cs := y1) (t := 5) (by simp))
      have bt := hBo.out.at HS4.out.2
      exact lSame v t.s0 t.l0 t.c0 t.s1 t.l1 t.c1 _ _ w22 ⟨bv.n0, bv.n1, bt.n0, bt.n1⟩ bv.b0 bv.b1 bt.b0 bt.b1
    have cS := Lib.hid cS0
    clear cS0
    have hN := fun W => nilN19 W
    have hE3 := fun W => eq19 W 3 3
    have hE4 := fun W => eq19 W 4 4
    have RT := Lib.hid (HS4.out.row (b := b1) (cs := txC t) (t := 37) (by simp))
    have RV := Lib.hid (HS4.out.row (b := b15) (cs := txC v) (t := 37) (by simp))
    go_wp2_with (first | (refine wpList_load_on rfl _ _ rfl b15 rfl 37 (txC v) (0, 0) _ RV.out und rfl sizTX ?_) | (refine wpList_load_on rfl _ _ rfl b1 rfl 37 (txC t) (0, 0) _ RT.out und rfl sizTX ?_))
    refine cS.out.mono ?_
    rintro e w23 ⟨rfl, hb⟩
    have H23 := Lib.hid (HS4.out.next hb)
    clear hb HS4 RT RV cS
    go_wp2_with fail
    go_ret
    exact ⟨by simp, H23.out.2⟩
theorem walkTxBack (w : World) (t : TxD) (h : TxOk t) (L0 : List Nat) (x0 : B8 t.l0 L0) (L1 : List Nat) (x1 : B8 t.l1 L1) (hB : Bods t L0 L1 w.heap.size w) (ao : Option Addr) (len cap : Nat) (L : List Nat) (x : B8 len L) (hl : len ≤ cap) (hc : cap ≤ 9223372036854775807) (hn : ao = none → len = 0 ∧ cap = 0) (hb : 0 < len → ∃ b o, ao = some ⟨b, o, none⟩ ∧ BL w b o L) (m : Int) (m0 : 0 ≤ m) (m1 : m ≤ 255) : Calls Try.prog 5 #[txV t, .slice ao len cap, .int .u8 m] w fun e w' => e = .returned (.bool true) ∧ Below w.heap.size w w' := by
  by_cases h1 : t.l0 < 200 ∧ t.l1 < 200
  · by_cases h2 : 2000 < len
    · exact walkTBM w t ao len cap m h1 h2
    · cases hm : mayB t
      · exact walkTBN w t ao len cap m h h1 hm L (Lib.hid x) (Lib.hid (slOf x hl hc hn hb)) (by omega)
      · exact walkTBY w t ao len cap m ⟨m0, m1⟩ h h1 hm L0 L1 x0.mem x1.mem hB L (Lib.hid x) (Lib.hid (slOf x hl hc hn hb)) (by omega)
  · exact walkTBL w t ao len cap m h1

end Go.Proofs.Ytkfimfjjmdjbdaa
