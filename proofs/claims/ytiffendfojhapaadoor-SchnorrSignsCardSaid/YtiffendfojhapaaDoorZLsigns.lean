import Derived.Test.YtiffendfojhapaaDoorZWup9
import Derived.Test.YtiffendfojhapaaDoorZLsums
set_option linter.unusedVariables false
set_option linter.unusedSimpArgs false
/- The walk of the law SchnorrSigns. -/
namespace Go.Proofs.YtiffendfojhapaaDoor
open Go.RowKit

set_option maxRecDepth 8000 in
set_option maxHeartbeats 4000000 in
theorem walkSigns (w : World) (hG : RowsAt w) (k n : Int) (ao : Option Addr) (len cap : Nat) (M : List Nat) (H : B8 len M) (hl : len ≤ cap) (hc : cap ≤ 9223372036854775807) (hn : ao = none → len = 0 ∧ cap = 0) (hb : 0 < len → ∃ b o, ao = some ⟨b, o, none⟩ ∧ BL w b o M) (k0 : 0 ≤ k) (k1 : k ≤ 18446744073709551615) (n0 : 0 ≤ n) (n1 : n ≤ 18446744073709551615) :
    Calls Tryd.prog 6 #[.int .u64 k, .int .u64 n, .slice ao len cap] w fun e w' => e = .returned (.bool true) ∧ Below w.heap.size w w' := by
  have hU := Lib.hid (up9 w hG)
  have hS := Lib.hid (sl_of H hl hc hn hb)
  have hG' := Lib.hid hG
  replace H := Lib.hid H
  have hlc : (len : Int) ≤ (cap : Int) := by omega
  have hcm : (cap : Int) ≤ 9223372036854775807 := by omega
  clear hn hb hG
  by_cases h2 : 2000 < len
  · have h2' : (2000 : Int) < (len : Int) := by omega
    go_enter Tryd.func6, Tryd.ntmps6
    go_wp2_with fail
    refine (hU.out).mono ?_
    rintro e w1 ⟨rfl, hb1⟩
    have H1 := Lib.hid (HR.next (HR.refl w) hb1)
    clear hb1
    go_wp2_with fail
    go_ret
    exact ⟨rfl, H1.out.2⟩
  have h2' : (len : Int) ≤ 2000 := by omega
  by_cases hk : 1 ≤ k ∧ k < 72057593894066549
  · by_cases hn : 1 ≤ n ∧ n < 72057593894066549
    · have cS := fun W (hw : Below w.heap.size w W) => sSignY k n hk.1 hk.2 hn.1 hn.2 ao len cap M H.out (by omega) W (hS.out.at hw) (hG'.out.below hw)
      have cA := fun w => rTimesG n n0 n1 w
      have cP := fun w => rTimesG k k0 k1 w
      have hKk := Lib.hid hk
      have hKn := Lib.hid hn
      generalize Obol.Pnt.smul n.toNat Obol.G = A at cS cA
      generalize Obol.Pnt.smul k.toNat Obol.G = P at cS cP
      obtain ⟨ax, ay, ax0, ay0, -, -, hvA, -⟩ := coordsN A
      obtain ⟨px, py, px0, py0, -, -, hvP, -⟩ := coordsN P
      have cQ := fun W (hw : Below w.heap.size w W) => lQues ax ay px py ax0 ay0 px0 py0 A P hvA hvP ao len cap M H.out (by omega) W (hS.out.at hw)
      have hqlt := quesP_lt A P M
      generalize Obol.quesP A P M = q0 at cS cQ hqlt
      obtain ⟨q, hq⟩ : ∃ q : Int, ((q0 : Nat) : Int) = q := ⟨_, rfl⟩
      rw [hq] at cQ
      have cM := fun w => r1Mul 72057593894066549 q k (by omega) (by omega) (by omega) k0 w
      rw [litSn, show q.toNat = q0 by omega] at cM
      obtain ⟨m, hm⟩ : ∃ m : Int, ((Obol.mulM 72057593894066549 q0 k.toNat : Nat) : Int) = m := ⟨_, rfl⟩
      rw [hm] at cM
      have cZ := fun w => r1Add 72057593894066549 n m (by omega) (by omega) n0 (by omega) w
      rw [litSn, show m.toNat = Obol.mulM 72057593894066549 q0 k.toNat by omega] at cZ
      change ∀ w, Calls _ _ _ w fun e w' => e = .returned (.int .u64 ((Obol.sigZ n.toNat q0 k.toNat : Nat) : Int)) ∧ _ at cZ
      obtain ⟨z, hz⟩ : ∃ z : Int, ((Obol.sigZ n.toNat q0 k.toNat : Nat) : Int) = z := ⟨_, rfl⟩
      rw [hz] at cZ
      rw [hz] at cS
      have hsg := sig_of hvA z
      rw [hsg] at cS
      rw [hvA] at cA
      rw [hvP] at cP
      replace cS := Lib.hid cS
      replace cA := Lib.hid cA
      replace cP := Lib.hid cP
      replace cQ := Lib.hid cQ
      replace cM := Lib.hid cM
      replace cZ := Lib.hid cZ
      clear hsg hz hm hq hqlt hvA hvP hk hn
      go_enter Tryd.func6, Tryd.ntmps6
      go_wp2_with fail
      refine (hU.out).mono ?_
      rintro e w1 ⟨rfl, hb1⟩
      have H1 := Lib.hid (HR.next (HR.refl w) hb1)
      clear hb1
      go_wp2_with fail
      refine (cS.out _ H1.out.2).mono ?_
      rintro e w2 ⟨rfl, hb2⟩
      have H2 := Lib.hid ((H1.out.next hb2).new #[.int .u64 ax, .int .u64 ay, .int .u64 z] 44)
      clear hb2 H1
      go_wp2_with fail
      refine (lKeyY k hKk.out.1 hKk.out.2 _).mono ?_
      rintro e w3 ⟨rfl, rfl⟩
      generalize w2.alloc (.cells #[.int .u64 ax, .int .u64 ay, .int .u64 z] 44) = w4 at H2 ⊢
      generalize w2.heap.size = b8 at H2 ⊢
      go_wp2_with fail
      refine (lKeyY n hKn.out.1 hKn.out.2 _).mono ?_
      rintro e w3 ⟨rfl, rfl⟩
      go_wp2_with fail
      refine (r7Gen _).mono ?_
      rintro e w5 ⟨rfl, hb5⟩
      have H5 := Lib.hid (H2.out.next hb5)
      clear hb5 H2
      go_wp2_with fail
      refine (cA.out _).mono ?_
      rintro e w6 ⟨rfl, hb6⟩
      have H6 := Lib.hid ((H5.out.next hb6).new #[.int .u64 ax, .int .u64 ay] 37)
      clear hb6 H5
      go_wp2_with fail
      generalize w6.alloc (.cells #[.int .u64 ax, .int .u64 ay] 37) = w7 at H6 ⊢
      generalize w6.heap.size = b10 at H6 ⊢
      refine wp_region_noPanic ?_
      refine wp_region_held_drew (S := fun wq => wq.cell? ⟨b10, 0, none⟩ = some (.int .u64 ax) ∧ wq.cell? ⟨b10, 1, none⟩ = some (.int .u64 ay) ∧ wq.cell? ⟨b8, 0, none⟩ = some (.int .u64 ax) ∧ wq.cell? ⟨b8, 1, none⟩ = some (.int .u64 ay) ∧ wq.cell? ⟨b8, 2, none⟩ = some (.int .u64 z) ∧ HR w wq [(b10, #[.int .u64 ax, .int .u64 ay], 37), (b8, #[.int .u64 ax, .int .u64 ay, .int .u64 z], 44)]) (by kernel_rfl) ?_ (fun hHeld => ?_)
      · have hq0 := HR.drew H6.out
        exact ⟨HR.cell hq0 (b := b10) (cs := #[.int .u64 ax, .int .u64 ay]) (t := 37) (by simp) 0 rfl, HR.cell hq0 (b := b10) (cs := #[.int .u64 ax, .int .u64 ay]) (t := 37) (by simp) 1 rfl, HR.cell hq0 (b := b8) (cs := #[.int .u64 ax, .int .u64 ay, .int .u64 z]) (t := 44) (by simp) 0 rfl, HR.cell hq0 (b := b8) (cs := #[.int .u64 ax, .int .u64 ay, .int .u64 z]) (t := 44) (by simp) 1 rfl, HR.cell hq0 (b := b8) (cs := #[.int .u64 ax, .int .u64 ay, .int .u64 z]) (t := 44) (by simp) 2 rfl, hq0⟩
      refine takeH 0 (fun _ _ _ _ _ h => h) (by kernel_rfl) hHeld rfl (by kernel_rfl) (by rfl) (v := ?_) ?_ ?_
      rotate_left
      ((intro wz hz; (try dsimp only at hz); go_simp) <;> with_reducible rfl)
      try simp only [Act.put, List.setIfInBounds_toArray, List.set_cons_zero, List.set_cons_succ]
      refine takeH 2 (fun _ _ _ _ _ h => h) (by kernel_rfl) hHeld rfl (by kernel_rfl) (by rfl) (v := ?_) ?_ ?_
      rotate_left
      ((intro wz hz; (try dsimp only at hz); go_simp) <;> with_reducible rfl)
      try simp only [Act.put, List.setIfInBounds_toArray, List.set_cons_zero, List.set_cons_succ]
      refine takeH 4 (fun _ _ _ _ _ h => h) (by kernel_rfl) hHeld rfl (by kernel_rfl) (by rfl) (v := ?_) ?_ ?_
      rotate_left
      ((intro wz hz; (try dsimp only at hz); go_simp) <;> with_reducible rfl)
      try simp only [Act.put, List.setIfInBounds_toArray, List.set_cons_zero, List.set_cons_succ]
      refine stepH 1 (by kernel_rfl) rfl (by rfl) (fun K hK => ?_)
      go_simp
      refine (r7Gen _).mono ?_
      rintro e wc1 ⟨rfl, hbc1⟩
      have hrc1 := HR.next hHeld.2.2.2.2.2 hbc1
      refine hK.out _ _ ?_ (fun hHeld => ?_)
      · exact ⟨HR.cell hrc1 (b := b10) (cs := #[.int .u64 ax, .int .u64 ay]) (t := 37) (by simp) 0 rfl, HR.cell hrc1 (b := b10) (cs := #[.int .u64 ax, .int .u64 ay]) (t := 37) (by simp) 1 rfl, HR.cell hrc1 (b := b8) (cs := #[.int .u64 ax, .int .u64 ay, .int .u64 z]) (t := 44) (by simp) 0 rfl, HR.cell hrc1 (b := b8) (cs := #[.int .u64 ax, .int .u64 ay, .int .u64 z]) (t := 44) (by simp) 1 rfl, HR.cell hrc1 (b := b8) (cs := #[.int .u64 ax, .int .u64 ay, .int .u64 z]) (t := 44) (by simp) 2 rfl, hrc1⟩
      clear hK K
      try simp only [Act.put, List.setIfInBounds_toArray, List.set_cons_zero, List.set_cons_succ]
      refine stepH 3 (by kernel_rfl) rfl (by rfl) (fun K hK => ?_)
      go_simp
      refine (cP.out _).mono ?_
      rintro e wc2 ⟨rfl, hbc2⟩
      have hrc2 := HR.next hHeld.2.2.2.2.2 hbc2
      refine hK.out _ _ ?_ (fun hHeld => ?_)
      · exact ⟨HR.cell hrc2 (b := b10) (cs := #[.int .u64 ax, .int .u64 ay]) (t := 37) (by simp) 0 rfl, HR.cell hrc2 (b := b10) (cs := #[.int .u64 ax, .int .u64 ay]) (t := 37) (by simp) 1 rfl, HR.cell hrc2 (b := b8) (cs := #[.int .u64 ax, .int .u64 ay, .int .u64 z]) (t := 44) (by simp) 0 rfl, HR.cell hrc2 (b := b8) (cs := #[.int .u64 ax, .int .u64 ay, .int .u64 z]) (t := 44) (by simp) 1 rfl, HR.cell hrc2 (b := b8) (cs := #[.int .u64 ax, .int .u64 ay, .int .u64 z]) (t := 44) (by simp) 2 rfl, hrc2⟩
      clear hK K
      try simp only [Act.put, List.setIfInBounds_toArray, List.set_cons_zero, List.set_cons_succ]
      refine stepH 5 (by kernel_rfl) rfl (by rfl) (fun K hK => ?_)
      go_simp
      refine (cQ.out _ hrc2.2).mono ?_
      rintro e wc3 ⟨rfl, hbc3⟩
      have hrc3 := HR.next hHeld.2.2.2.2.2 hbc3
      refine hK.out _ _ ?_ (fun hHeld => ?_)
      · exact ⟨HR.cell hrc3 (b := b10) (cs := #[.int .u64 ax, .int .u64 ay]) (t := 37) (by simp) 0 rfl, HR.cell hrc3 (b := b10) (cs := #[.int .u64 ax, .int .u64 ay]) (t := 37) (by simp) 1 rfl, HR.cell hrc3 (b := b8) (cs := #[.int .u64 ax, .int .u64 ay, .int .u64 z]) (t := 44) (by simp) 0 rfl, HR.cell hrc3 (b := b8) (cs := #[.int .u64 ax, .int .u64 ay, .int .u64 z]) (t := 44) (by simp) 1 rfl, HR.cell hrc3 (b := b8) (cs := #[.int .u64 ax, .int .u64 ay, .int .u64 z]) (t := 44) (by simp) 2 rfl, hrc3⟩
      clear hK K
      try simp only [Act.put, List.setIfInBounds_toArray, List.set_cons_zero, List.set_cons_succ]
      refine takeH 6 (fun _ _ _ _ _ h => h) (by kernel_rfl) hHeld rfl (by kernel_rfl) (by rfl) (v := ?_) ?_ ?_
      rotate_left
      ((intro wz hz; (try dsimp only at hz); go_simp) <;> with_reducible rfl)
      try simp only [Act.put, List.setIfInBounds_toArray, List.set_cons_zero, List.set_cons_succ]
      refine wpAnyH_done (by kernel_rfl) (NoPanic.normal ?_) _
      have H8 := Lib.hid hHeld.2.2.2.2.2
      clear hHeld H6
      go_wp2_with fail
      refine wp_region_noPanic ?_
      refine wp_region_held_drew (S := fun wq => wq.cell? ⟨b10, 0, none⟩ = some (.int .u64 ax) ∧ wq.cell? ⟨b10, 1, none⟩ = some (.int .u64 ay) ∧ wq.cell? ⟨b8, 0, none⟩ = some (.int .u64 ax) ∧ wq.cell? ⟨b8, 1, none⟩ = some (.int .u64 ay) ∧ wq.cell? ⟨b8, 2, none⟩ = some (.int .u64 z) ∧ HR w wq [(b10, #[.int .u64 ax, .int .u64 ay], 37), (b8, #[.int .u64 ax, .int .u64 ay, .int .u64 z], 44)]) (by kernel_rfl) ?_ (fun hHeld => ?_)
      · have hq0 := HR.drew H8.out
        exact ⟨HR.cell hq0 (b := b10) (cs := #[.int .u64 ax, .int .u64 ay]) (t := 37) (by simp) 0 rfl, HR.cell hq0 (b := b10) (cs := #[.int .u64 ax, .int .u64 ay]) (t := 37) (by simp) 1 rfl, HR.cell hq0 (b := b8) (cs := #[.int .u64 ax, .int .u64 ay, .int .u64 z]) (t := 44) (by simp) 0 rfl, HR.cell hq0 (b := b8) (cs := #[.int .u64 ax, .int .u64 ay, .int .u64 z]) (t := 44) (by simp) 1 rfl, HR.cell hq0 (b := b8) (cs := #[.int .u64 ax, .int .u64 ay, .int .u64 z]) (t := 44) (by simp) 2 rfl, hq0⟩
      refine takeH 0 (fun _ _ _ _ _ h => h) (by kernel_rfl) hHeld rfl (by kernel_rfl) (by rfl) (v := ?_) ?_ ?_
      rotate_left
      ((intro wz hz; (try dsimp only at hz); go_simp) <;> with_reducible rfl)
      try simp only [Act.put, List.setIfInBounds_toArray, List.set_cons_zero, List.set_cons_succ]
      refine takeH 1 (fun _ _ _ _ _ h => h) (by kernel_rfl) hHeld rfl (by kernel_rfl) (by rfl) (v := ?_) ?_ ?_
      rotate_left
      ((intro wz hz; (try dsimp only at hz); go_simp) <;> with_reducible rfl)
      try simp only [Act.put, List.setIfInBounds_toArray, List.set_cons_zero, List.set_cons_succ]
      refine takeH 2 (fun _ _ _ _ _ h => h) (by kernel_rfl) hHeld rfl (by kernel_rfl) (by rfl) (v := ?_) ?_ ?_
      rotate_left
      ((intro wz hz; (try dsimp only at hz); go_simp) <;> with_reducible rfl)
      try simp only [Act.put, List.setIfInBounds_toArray, List.set_cons_zero, List.set_cons_succ]
      refine takeH 3 (fun _ _ _ _ _ h => h) (by kernel_rfl) hHeld rfl (by kernel_rfl) (by rfl) (v := ?_) ?_ ?_
      rotate_left
      ((intro wz hz; (try dsimp only at hz); go_simp) <;> with_reducible rfl)
      try simp only [Act.put, List.setIfInBounds_toArray, List.set_cons_zero, List.set_cons_succ]
      refine takeH 4 (fun _ _ _ _ _ h => h) (by kernel_rfl) hHeld rfl (by kernel_rfl) (by rfl) (v := ?_) ?_ ?_
      rotate_left
      ((intro wz hz; (try dsimp only at hz); go_simp) <;> with_reducible rfl)
      try simp only [Act.put, List.setIfInBounds_toArray, List.set_cons_zero, List.set_cons_succ]
      refine takeH 5 (fun _ _ _ _ _ h => h) (by kernel_rfl) hHeld rfl (by kernel_rfl) (by rfl) (v := ?_) ?_ ?_
      rotate_left
      ((intro wz hz; (try dsimp only at hz); go_simp) <;> with_reducible rfl)
      try simp only [Act.put, List.setIfInBounds_toArray, List.set_cons_zero, List.set_cons_succ]
      refine takeH 6 (fun _ _ _ _ _ h => h) (by kernel_rfl) hHeld rfl (by kernel_rfl) (by rfl) (v := ?_) ?_ ?_
      rotate_left
      ((intro wz hz; (try dsimp only at hz); go_simp) <;> with_reducible rfl)
      try simp only [Act.put, List.setIfInBounds_toArray, List.set_cons_zero, List.set_cons_succ]
      refine takeH 7 (fun _ _ _ _ _ h => h) (by kernel_rfl) hHeld rfl (by kernel_rfl) (by rfl) (v := ?_) ?_ ?_
      rotate_left
      ((intro wz hz; (try dsimp only at hz); go_simp) <;> with_reducible rfl)
      try simp only [Act.put, List.setIfInBounds_toArray, List.set_cons_zero, List.set_cons_succ]
      refine takeH 8 (fun _ _ _ _ _ h => h) (by kernel_rfl) hHeld rfl (by kernel_rfl) (by rfl) (v := ?_) ?_ ?_
      rotate_left
      ((intro wz hz; (try dsimp only at hz); go_simp) <;> with_reducible rfl)
      try simp only [Act.put, List.setIfInBounds_toArray, List.set_cons_zero, List.set_cons_succ]
      refine takeH 9 (fun _ _ _ _ _ h => h) (by kernel_rfl) hHeld rfl (by kernel_rfl) (by rfl) (v := ?_) ?_ ?_
      rotate_left
      ((intro wz hz; (try dsimp only at hz); go_simp) <;> with_reducible rfl)
      try simp only [Act.put, List.setIfInBounds_toArray, List.set_cons_zero, List.set_cons_succ]
      refine takeH 10 (fun _ _ _ _ _ h => h) (by kernel_rfl) hHeld rfl (by kernel_rfl) (by rfl) (v := ?_) ?_ ?_
      rotate_left
      ((intro wz hz; (try dsimp only at hz); go_simp) <;> with_reducible rfl)
      try simp only [Act.put, List.setIfInBounds_toArray, List.set_cons_zero, List.set_cons_succ]
      refine takeH 11 (fun _ _ _ _ _ h => h) (by kernel_rfl) hHeld rfl (by kernel_rfl) (by rfl) (v := ?_) ?_ ?_
      rotate_left
      ((intro wz hz; (try dsimp only at hz); go_simp) <;> with_reducible rfl)
      try simp only [Act.put, List.setIfInBounds_toArray, List.set_cons_zero, List.set_cons_succ]
      refine takeH 12 (fun _ _ _ _ _ h => h) (by kernel_rfl) hHeld rfl (by kernel_rfl) (by rfl) (v := ?_) ?_ ?_
      rotate_left
      ((intro wz hz; (try dsimp only at hz); go_simp) <;> with_reducible rfl)
      try simp only [Act.put, List.setIfInBounds_toArray, List.set_cons_zero, List.set_cons_succ]
      refine takeH 13 (fun _ _ _ _ _ h => h) (by kernel_rfl) hHeld rfl (by kernel_rfl) (by rfl) (v := ?_) ?_ ?_
      rotate_left
      ((intro wz hz; (try dsimp only at hz); go_simp) <;> with_reducible rfl)
      try simp only [Act.put, List.setIfInBounds_toArray, List.set_cons_zero, List.set_cons_succ]
      refine takeH 14 (fun _ _ _ _ _ h => h) (by kernel_rfl) hHeld rfl (by kernel_rfl) (by rfl) (v := ?_) ?_ ?_
      rotate_left
      ((intro wz hz; (try dsimp only at hz); go_simp) <;> with_reducible rfl)
      try simp only [Act.put, List.setIfInBounds_toArray, List.set_cons_zero, List.set_cons_succ]
      refine takeH 15 (fun _ _ _ _ _ h => h) (by kernel_rfl) hHeld rfl (by kernel_rfl) (by rfl) (v := ?_) ?_ ?_
      rotate_left
      ((intro wz hz; (try dsimp only at hz); go_simp) <;> with_reducible rfl)
      try simp only [Act.put, List.setIfInBounds_toArray, List.set_cons_zero, List.set_cons_succ]
      refine takeH 16 (fun _ _ _ _ _ h => h) (by kernel_rfl) hHeld rfl (by kernel_rfl) (by rfl) (v := ?_) ?_ ?_
      rotate_left
      ((intro wz hz; (try dsimp only at hz); go_simp) <;> with_reducible rfl)
      try simp only [Act.put, List.setIfInBounds_toArray, List.set_cons_zero, List.set_cons_succ]
      refine stepH 17 (by kernel_rfl) rfl (by rfl) (fun K hK => ?_)
      go_simp
      refine (cM.out _).mono ?_
      rintro e wq' ⟨rfl, rfl⟩
      refine hK.out _ _ ?_ (fun hHeld => ?_)
      · exact hHeld
      clear hK K
      try simp only [Act.put, List.setIfInBounds_toArray, List.set_cons_zero, List.set_cons_succ]
      refine stepH 18 (by kernel_rfl) rfl (by rfl) (fun K hK => ?_)
      go_simp
      refine (cZ.out _).mono ?_
      rintro e wq' ⟨rfl, rfl⟩
      refine hK.out _ _ ?_ (fun hHeld => ?_)
      · exact hHeld
      clear hK K
      try simp only [Act.put, List.setIfInBounds_toArray, List.set_cons_zero, List.set_cons_succ]
      refine takeH 19 (fun _ _ _ _ _ h => h) (by kernel_rfl) hHeld rfl (by kernel_rfl) (by rfl) (v := ?_) ?_ ?_
      rotate_left
      ((intro wz hz; (try dsimp only at hz); go_simp) <;> with_reducible rfl)
      try simp only [Act.put, List.setIfInBounds_toArray, List.set_cons_zero, List.set_cons_succ]
      refine takeH 20 (fun _ _ _ _ _ h => h) (by kernel_rfl) hHeld rfl (by kernel_rfl) (by rfl) (v := ?_) ?_ ?_
      rotate_left
      ((intro wz hz; (try dsimp only at hz); go_simp) <;> with_reducible rfl)
      try simp only [Act.put, List.setIfInBounds_toArray, List.set_cons_zero, List.set_cons_succ]
      refine takeH 21 (fun _ _ _ _ _ h => h) (by kernel_rfl) hHeld rfl (by kernel_rfl) (by rfl) (v := ?_) ?_ ?_
      rotate_left
      ((intro wz hz; (try dsimp only at hz); go_simp) <;> with_reducible rfl)
      try simp only [Act.put, List.setIfInBounds_toArray, List.set_cons_zero, List.set_cons_succ]
      refine wpAnyH_done (by kernel_rfl) (NoPanic.normal ?_) _
      have HB := Lib.hid (hHeld.2.2.2.2.2.2)
      clear hHeld
      go_wp2_with fail
      go_ret
      exact ⟨rfl, HB.out⟩
    · have hKk := Lib.hid hk
      have hKn := Lib.hid hn
      clear hk hn
      have hE := fun W => eqErrC W 1 1
      go_enter Tryd.func6, Tryd.ntmps6
      go_wp2_with fail
      refine (hU.out).mono ?_
      rintro e w1 ⟨rfl, hb1⟩
      have H1 := Lib.hid (HR.next (HR.refl w) hb1)
      clear hb1
      go_wp2_with fail
      refine (sSignN k n hKk.out.1 hKk.out.2 n0 hKn.out ao len cap _).mono ?_
      rintro e w2 ⟨rfl, hb2⟩
      have H2 := Lib.hid ((H1.out.next hb2).alloc (.cells #[.int .u64 0, .int .u64 0, .int .u64 0] 44))
      clear hb2 H1
      go_wp2_with fail
      refine (lKeyY k hKk.out.1 hKk.out.2 _).mono ?_
      rintro e w3 ⟨rfl, rfl⟩
      go_wp2_with fail
      refine (lKeyN n n0 hKn.out _).mono ?_
      rintro e w3 ⟨rfl, rfl⟩
      go_wp2_with fail
      go_ret
      exact ⟨rfl, H2.out.2⟩
  · have hKk := Lib.hid hk
    clear hk
    have hE := fun W => eqErrC W 1 1
    go_enter Tryd.func6, Tryd.ntmps6
    go_wp2_with fail
    refine (hU.out).mono ?_
    rintro e w1 ⟨rfl, hb1⟩
    have H1 := Lib.hid (HR.next (HR.refl w) hb1)
    clear hb1
    go_wp2_with fail
    refine (sSignK k n k0 hKk.out ao len cap _).mono ?_
    rintro e w2 ⟨rfl, hb2⟩
    have H2 := Lib.hid ((H1.out.next hb2).alloc (.cells #[.int .u64 0, .int .u64 0, .int .u64 0] 44))
    clear hb2 H1
    go_wp2_with fail
    refine (lKeyN k k0 hKk.out _).mono ?_
    rintro e w3 ⟨rfl, rfl⟩
    go_wp2_with fail
    go_ret
    exact ⟨rfl, H2.out.2⟩

end Go.Proofs.YtiffendfojhapaaDoor
