import Derived.Test.YtkfimfjjmdjbdaaUu
import Derived.Test.YtkfimfjjmdjbdaaUt
import Derived.Test.YtkfimfjjmdjbdaaUb
import Derived.ProofKit
import Derived.OpenShut
import Derived.ChangeSlices
import Derived.SizedLaws
import Derived.Carry
set_option linter.unusedVariables false
set_option linter.unusedSimpArgs false
set_option linter.unusedSectionVars false
/- Walks: the law TxReads. -/
namespace Go.Proofs.Ytkfimfjjmdjbdaa
open Go.RowKit
set_option linter.unusedVariables false
set_option linter.unusedSimpArgs false

abbrev zR : TxD := { root := 0, inn := 0, out := 0, fx := 0, fy := 0, tx := 0, ty := 0, seq := 0, e0 := 0, e1 := 0, m0 := 0, m1 := 0, n0x := 0, n0y := 0, n1x := 0, n1y := 0, a0 := 0, a1 := 0, xa := 0, ya := 0, xb := 0, yb := 0, xc := 0, yc := 0, gx := 0, gy := 0, gz := 0, ia := false, ib := false, ic := false, s0 := none, l0 := 0, c0 := 0, s1 := none, l1 := 0, c1 := 0 }
theorem same0 (W : World) : Calls Try.prog 18 #[.agg zC, .agg zC] W fun e w' => e = .returned (.bool true) ∧ Below W.heap.size W w' := by
  have nil9 : SlI W.heap.size W none 0 [] := ⟨Nat.le_refl _, by decide, fun _ => ⟨rfl, rfl⟩, fun h => by simp at h⟩
  exact lSame zR none 0 0 none 0 0 [] [] W ⟨rfl, rfl, rfl, rfl⟩ nil9 nil9 nil9 nil9
theorem RdE.bad9 {t : TxD} {z : Obol.Rs} {Z : Array Value} {E : Value} (h : RdE t z Z E) (hm : z.1 = true ∨ mayB t = false) : Z = zC ∧ E = errV 3 := by
  rcases h with ⟨_, h1, h2⟩ | ⟨h1, h3, _, _, _⟩ | ⟨h1, h3, _, _, _⟩
  · exact ⟨h1, h2⟩
  · rcases hm with h | h
    · rw [h] at h1; cases h1
    · rw [h] at h3; cases h3
  · rcases hm with h | h
    · rw [h] at h1; cases h1
    · rw [h] at h3; cases h3
theorem part_sl {b o c B : Nat} {L : List Nat} {W : World} (hBL : BL W b o L) (hlt : b < B) (k : Nat) (hk : k + 32 ≤ L.length) (hc : L.length ≤ c) (hc2 : c ≤ 9223372036854775807) : SlI B W (some ⟨b, o + k, none⟩) (c - k) ((L.drop k).take 32) := by
  have hn : ((L.drop k).take 32).length = 32 := by rw [List.length_take, List.length_drop]; omega
  exact ⟨by rw [hn]; omega, by omega, (fun h => by cases h), fun _ => ⟨b, o + k, rfl, hlt, bl_at hBL k 32 hk⟩⟩
/-- The program's reader and the reference's agree. -/
theorem agree {L : List Nat} {u : TxD} {M0 M1 : List Nat} {z : Obol.Rs} {base g0 g1 : Nat} {z0 z1 Z Z2 : Array Value} {E : Value} {k : Int} {ao : Option Addr} {c : Nat} {w : World} (fC : RdC L u M0 M1 z) (fB : RdB base u M0 M1 g0 g1 z0 z1) (fE : RdE u z Z E) (hc : L.length ≤ c) (hc2 : c ≤ 9223372036854775807)
    (hR : (k = 3 ∧ Z2 = zC ∧ ¬ (posL L 3 + 16 ≤ L.length ∧ RrW L)) ∨ ∃ b o, ao = some ⟨b, o, none⟩ ∧ b < w.heap.size ∧ BL w b o L ∧ RrE L b o c Z2 k) :
    (∀ W : World, Below w.heap.size w W → Row W g0 z0 5 → Row W g1 z1 5 → Calls Try.prog 18 #[.agg Z, .agg Z2] W fun e w' => e = .returned (.bool true) ∧ Below W.heap.size W w') ∧
      ((E = .nilIface ∧ k = 0) ∨ (E = errV k ∧ 1 ≤ k ∧ k ≤ 15)) := by
  have bad : ∀ k : Int, k = 3 → Z2 = zC → (z.1 = true ∨ mayB u = false) → (∀ W : World, Below w.heap.size w W → Row W g0 z0 5 → Row W g1 z1 5 → Calls Try.prog 18 #[.agg Z, .agg Z2] W fun e w' => e = .returned (.bool true) ∧ Below W.heap.size W w') ∧
      ((E = .nilIface ∧ k = 0) ∨ (E = errV k ∧ 1 ≤ k ∧ k ≤ 15)) := fun k hk hZ hm => by
    obtain ⟨rfl, rfl⟩ := fE.bad9 hm
    subst hk hZ
    exact ⟨fun W _ _ _ => same0 W, .inr ⟨rfl, by omega, by omega⟩⟩
  have no : ¬ (posL L 3 + 16 ≤ L.length ∧ RrW L) → z.1 = true := fun h => by
    cases hz : z.1 with
    | true => rfl
    | false => exact (h (rr_well fC hz)).elim
  rcases hR with ⟨hk, hZ, hn⟩ | ⟨b, o, hao, hlt, hBL, ⟨hk, hZ, hn⟩ | ⟨t, hA, hl, hB, hT⟩⟩
  · exact bad k hk hZ (.inl (no hn))
  · exact bad k hk hZ (.inl (no hn))
  obtain ⟨hz, hal, hM0, hM1⟩ := rr_good fC hl hA
  obtain ⟨t1, t2, t3, t4, t5, t6⟩ := hB
  have hm : mayB u = mayB t := hal.may (fB.l0.trans t2.symm) (fB.l1.trans t5.symm)
  have hd : z.2.length = L.length - (posL L 3 + 16) := by rw [hz]; exact List.length_drop
  have hz1 : z.1 = false := by rw [hz]
  rcases hT with ⟨hmt, hk, hZ⟩ | ⟨hmt, hlt2, hk, hZ⟩ | ⟨hmt, hlt2, hk, hZ⟩
  · exact bad k hk hZ (.inr (hm.trans hmt))
  · subst hk hZ
    rcases fE with ⟨h | h, _, _⟩ | ⟨_, _, _, rfl, rfl⟩ | ⟨_, _, h, _, _⟩
    · rw [hz1] at h; cases h
    · rw [hm, hmt] at h; cases h
    · exact ⟨fun W _ _ _ => same0 W, .inr ⟨rfl, by omega, by omega⟩⟩
    · rw [h] at hd; simp only [List.length_nil] at hd; omega
  · subst hk hZ
    rcases fE with ⟨h | h, _, _⟩ | ⟨_, _, h, _, _⟩ | ⟨_, _, _, rfl, rfl⟩
    · rw [hz1] at h; cases h
    · rw [hm, hmt] at h; cases h
    · omega
    · refine ⟨fun W hb r0 r1 => ?_, .inl ⟨rfl, rfl⟩⟩
      have bu := fB.bods r0 r1
      have hp := (posL_le L 3).2
      have hbl := hBL.below hb hlt
      have hlW : b < W.heap.size := Nat.lt_of_lt_of_le hlt hb.size
      have T0 : SlI W.heap.size W t.s0 t.c0 M0 := by rw [t1, t3, hM0]; exact part_sl hbl hlW 88 (by omega) hc hc2
      have T1 : SlI W.heap.size W t.s1 t.c1 M1 := by rw [t4, t6, hM1]; exact part_sl hbl hlW 128 (by omega) hc hc2
      have cS := lSame u t.s0 t.l0 t.c0 t.s1 t.l1 t.c1 M0 M1 W ⟨bu.n0, bu.n1, by rw [t2]; exact fB.m0, by rw [t5]; exact fB.m1⟩ bu.b0 bu.b1 T0 T1
      rw [← hal.symm.eq] at cS
      exact cS
set_option maxRecDepth 100000 in
set_option maxHeartbeats 8000000 in
theorem walkTRM (w : World) (ao : Option Addr) (len cap : Nat) (hb : 2000 < len) : Calls Try.prog 4 #[.slice ao len cap] w fun e w' => e = .returned (.bool true) ∧ Below w.heap.size w w' := by
  have hl1 : (2000 : Int) < (len : Int) := by omega
  clear hb
  go_enter Try.func4, Try.ntmps4
  go_wp2_with fail
  refine (up19 _).mono ?_
  rintro e w2 ⟨rfl, hb⟩
  have H2 := Lib.hid ((HR.refl w).next hb)
  clear hb
  go_wp2_with fail
  go_ret
  exact ⟨by simp, H2.out.2⟩
set_option maxRecDepth 100000 in
set_option maxHeartbeats 8000000 in
theorem walkTRN (w : World) (ao : Option Addr) (len cap : Nat) (L : List Nat) (x : Hid (B8 len L)) (S : Hid (SlI w.heap.size w ao cap L)) (hl : len ≤ 2000) : Calls Try.prog 4 #[.slice ao len cap] w fun e w' => e = .returned (.bool true) ∧ Below w.heap.size w w' := by
  have hl1 : ¬ (2000 : Int) < (len : Int) := by omega
  have hl2 : Hid (len ≤ 1000000) := Lib.hid (by omega)
  clear hl
  go_enter Try.func4, Try.ntmps4
  have und := Try.underlying37
  go_wp2_with fail
  refine (up19 _).mono ?_
  rintro e w3 ⟨rfl, hb⟩
  have H3 := Lib.hid ((HR.refl w).next hb)
  clear hb
  go_wp2_with fail
  refine (tReadO ao len cap L x.out.len x.out.lt _ (S.out.next9 H3.out.2)).mono ?_
  rintro e w5 ⟨Z, E, u, M0, M1, z, g0, g1, z0, z1, rfl, hC, hk, hB, hE, r0, r1, hb⟩
  have HA := Lib.hid (HR.add (HR.add (H3.out.next hb) r0) r1)
  obtain ⟨hZs0, hZ1, hZi⟩ := hE.size
  have hth : (w5.alloc (.cells zC 37)).there w5.heap.size 0 Z.size := by rw [hZs0]; exact Row.newThere w5 zC 37
  have hZs := Lib.hid hZs0
  have fE1 := Lib.hid hE
  have fC1 := Lib.hid hC
  have fk1 := Lib.hid hk
  have fB1 := Lib.hid hB
  have BB := Lib.hid hb
  clear hZs0 hb r0 r1 hE hC hk hB
  go_upto_region 5 with (refine wpList_store_mid rfl _ _ _ rfl w5.heap.size 0 Z rfl rfl hth hZi hZ1 ?_)
  have H6 := Lib.hid (HA.out.fill zC Z 37 hZs.out)
  have BX1 := Lib.hid (((HR.refl _).next BB.out).fill zC Z 37 hZs.out).2
  clear hth hZ1 hZi hZs HA BB
  generalize (w5.alloc (.cells zC 37)).setCells w5.heap.size 0 Z.toList = w6 at H6 BX1 ⊢
  generalize w5.heap.size = b4 at H6 ⊢
  clear H3
  go_wp2_with fail
  refine (r19Read ao len cap L x.out.len hl2.out x.out.lt _ (S.out.next9 H6.out.2)).mono ?_
  rintro e w7 ⟨Z2, k, rfl, hb, hX⟩
  have HA := Lib.hid (H6.out.next hb)
  have hag := agree fC1.out fB1.out fE1.out (by have := S.out.le; omega) S.out.cap hX
  have cS := Lib.hid hag.1
  have hEk := Lib.hid hag.2
  have bW := Lib.hid hb
  have hZ2 : Z2.size = zC.size ∧ Z2.all (·.oneCell') = true ∧ (Try.prog.info? 37).map (·.size) = some Z2.size := by
    rcases hX with ⟨_, h, _⟩ | ⟨b, o, _, _, _, ⟨_, h, _⟩ | ⟨t, _, _, _, ⟨_, _, h⟩ | ⟨_, _, _, h⟩ | ⟨_, _, _, h⟩⟩⟩
    · rw [h]; exact ⟨rfl, oneZ, sizTX⟩
    · rw [h]; exact ⟨rfl, oneZ, sizTX⟩
    · rw [h]; exact ⟨rfl, oneZ, sizTX⟩
    · rw [h]; exact ⟨rfl, oneZ, sizTX⟩
    · rw [h]; exact ⟨rfl, oneTx t, sizTX⟩
  obtain ⟨hZs0, hZ1, hZi⟩ := hZ2
  have hth : (w7.alloc (.cells zC 37)).there w7.heap.size 0 Z2.size := by rw [hZs0]; exact Row.newThere w7 zC 37
  have hZs := Lib.hid hZs0
  clear hZs0 hX hag hb H6 fC1 fB1
  go_upto_region 6 with (refine wpList_store_mid rfl _ _ _ rfl w7.heap.size 0 Z2 rfl rfl hth hZi hZ1 ?_)
  have H8 := Lib.hid (HA.out.fill zC Z2 37 hZs.out)
  have B8x := Lib.hid (((HR.refl _).next bW.out).fill zC Z2 37 hZs.out).2
  clear hth hZ1 HA
  generalize (w7.alloc (.cells zC 37)).setCells w7.heap.size 0 Z2.toList = w8 at H8 B8x ⊢
  generalize w7.heap.size = b6 at H8 ⊢
  have fZ1 := Lib.hid fE1.out.size.2.2
  clear fE1 fk1 BX1
  rcases hEk.out with ⟨rfl, rfl⟩ | ⟨rfl, k1, k2⟩
  · go_wp2_with fail
    refine (lCodeN _).mono ?_
    rintro e w9 ⟨rfl, hb⟩
    have H9 := Lib.hid (H8.out.next hb)
    have BB9 := Lib.hid (bThen B8x.out hb B8x.out.size)
    clear hb H8
    have r4 := H9.out.row (b := b4) (cs := Z) (t := 37) (by simp)
    have r6 := H9.out.row (b := b6) (cs := Z2) (t := 37) (by simp)
    go_wp2_with (first | (refine wpList_load_on rfl _ _ rfl b4 rfl 37 Z (0, 0) _ r4 und rfl fZ1.out ?_) | (refine wpList_load_on rfl _ _ rfl b6 rfl 37 Z2 (0, 0) _ r6 und rfl hZi ?_))
    refine (cS.out _ BB9.out (H9.out.row (b := g0) (cs := z0) (t := 5) (by simp)) (H9.out.row (b := g1) (cs := z1) (t := 5) (by simp))).mono ?_
    rintro e w10 ⟨rfl, hb⟩
    have H10 := Lib.hid (H9.out.next hb)
    clear r4 r6 hb
    go_wp2_with fail
    go_ret
    exact ⟨by simp, H10.out.2⟩
  · go_wp2_with fail
    refine (lCodeE k k1 k2 _).mono ?_
    rintro e w9 ⟨rfl, hb⟩
    have H9 := Lib.hid (H8.out.next hb)
    have BB9 := Lib.hid (bThen B8x.out hb B8x.out.size)
    clear hb H8
    have r4 := H9.out.row (b := b4) (cs := Z) (t := 37) (by simp)
    have r6 := H9.out.row (b := b6) (cs := Z2) (t := 37) (by simp)
    go_wp2_with (first | (refine wpList_load_on rfl _ _ rfl b4 rfl 37 Z (0, 0) _ r4 und rfl fZ1.out ?_) | (refine wpList_load_on rfl _ _ rfl b6 rfl 37 Z2 (0, 0) _ r6 und rfl hZi ?_))
    refine (cS.out _ BB9.out (H9.out.row (b := g0) (cs := z0) (t := 5) (by simp)) (H9.out.row (b := g1) (cs := z1) (t := 5) (by simp))).mono ?_
    rintro e w10 ⟨rfl, hb⟩
    have H10 := Lib.hid (H9.out.next hb)
    clear r4 r6 hb
    go_wp2_with fail
    go_ret
    exact ⟨by simp, H10.out.2⟩

theorem walkTxReads (w : World) (ao : Option Addr) (len cap : Nat) (L : List Nat) (x : B8 len L) (hl : len ≤ cap) (hc : cap ≤ 9223372036854775807) (hn : ao = none → len = 0 ∧ cap = 0) (hb : 0 < len → ∃ b o, ao = some ⟨b, o, none⟩ ∧ BL w b o L) : Calls Try.prog 4 #[.slice ao len cap] w fun e w' => e = .returned (.bool true) ∧ Below w.heap.size w w' := by
  by_cases h2 : 2000 < len
  · exact walkTRM w ao len cap h2
  · exact walkTRN w ao len cap L (Lib.hid x) (Lib.hid (slOf x hl hc hn hb)) (by omega)

end Go.Proofs.Ytkfimfjjmdjbdaa
/- An argument of type []byte, opened once. -/
namespace Go.Proofs.Ytkfimfjjmdjbdaa
open Go.ChangeShapes Go.WideShapes Go.ChangeAt Go.RowKit

theorem cellsU8 : Try.prog.cellsOf 5 = 1 := by kernel_rfl
theorem laidOutA : laidOutB Try.prog = true := by kernel_rfl
theorem readB : Try.prog.readableRec 26 = true := of_decide_eq_true (by kernel_rfl)

/-- Its bytes, nil or not. -/
theorem viewB {H : Type} {enc : TypeId × Value → H} {W : World} {a0 : Option Addr} {len cap : Nat} {d : DataW H} {p : List MemPlace}
    (h : DataW.Trod enc Try.prog W 0 (fun _ => true) true 26 (.slice a0 len cap) d p) :
    ∃ L : List Nat, B8 len L ∧ len ≤ cap ∧ cap ≤ 9223372036854775807 ∧ (a0 = none → len = 0 ∧ cap = 0) ∧ (0 < len → ∃ b o, a0 = some ⟨b, o, none⟩ ∧ BL W b o L) := by
  obtain ⟨fuel, hf⟩ := h
  rcases open_ints Try.underlying26 Try.underlying5 cellsU8 hf with ⟨hcs, hx⟩ | ⟨a, len', cap', zs, hcs, _, hl, hm, hz, hx, hcell, hwz⟩
  · simp [Value.cells] at hcs
    obtain ⟨rfl, rfl, rfl⟩ := hcs
    exact ⟨[], ⟨rfl, fun i => by simp⟩, Nat.le_refl _, by omega, fun _ => ⟨rfl, rfl⟩, fun h => by omega⟩
  · simp [Value.cells] at hcs
    obtain ⟨rfl, rfl, rfl⟩ := hcs
    simp only [if_true] at hz
    have hw : ∀ n ∈ zs, 0 ≤ n ∧ n ≤ 255 := fun n hn => by have := bounds_u8 (hwz n hn); omega
    have hL : ((zs.take len).map Int.toNat).length = len := by simp; omega
    refine ⟨(zs.take len).map Int.toNat, ⟨hL, fun i => ?_⟩, hl, by unfold maxLen at hm; omega, (fun h => by cases h), fun h0 => ?_⟩
    · rw [List.getD_eq_getElem?_getD, List.getElem?_map]
      cases hi : (zs.take len)[i]? with
      | none => decide
      | some x =>
        have := hw x (List.mem_of_mem_take (List.mem_of_getElem? hi))
        simp
        omega
    · obtain ⟨b, off, spot⟩ := a
      have hspot : spot = none := by simpa [Addr.add] using World.cell?_spot (hcell 0 (by omega))
      subst hspot
      refine ⟨b, off, rfl, fun i hi => ?_⟩
      rw [hL] at hi
      have hc := hcell i (by omega)
      rw [add_plain] at hc
      rw [hc, List.getD_eq_getElem?_getD, List.getD_eq_getElem?_getD, List.getElem?_map, List.getElem?_take, if_pos hi]
      have hi2 : i < zs.length := by omega
      rw [List.getElem?_eq_getElem hi2]
      have := hw _ (List.getElem_mem hi2)
      simp
      omega

theorem bytesU8 : Try.prog.bytesOf 5 = 1 := by kernel_rfl
theorem viewSize {H : Type} {enc : TypeId × Value → H} {W : World} {a0 : Option Addr} {len cap : Nat} {d : DataW H} {p : List MemPlace}
    (h : DataW.Trod enc Try.prog W 0 (fun _ => true) true 26 (.slice a0 len cap) d p) : (d = .nil ∧ cap = 0) ∨ ∃ es sp, d = .slice es sp ∧ es.length + sp.length = cap := by
  obtain ⟨fuel, hf⟩ := h
  rcases open_ints Try.underlying26 Try.underlying5 cellsU8 hf with ⟨hcs, hx⟩ | ⟨a, len', cap', zs, hcs, _, hl, hm, hz, hx, hcell, hwz⟩
  · simp [Value.cells] at hcs
    simp only [Prod.mk.injEq] at hx
    exact Or.inl ⟨hx.1, hcs.2.2⟩
  · simp [Value.cells] at hcs
    obtain ⟨rfl, rfl, rfl⟩ := hcs
    simp only [Prod.mk.injEq] at hx
    simp only [if_true] at hz
    exact Or.inr ⟨_, _, hx.1, by simp [lits]; omega⟩

end Go.Proofs.Ytkfimfjjmdjbdaa
