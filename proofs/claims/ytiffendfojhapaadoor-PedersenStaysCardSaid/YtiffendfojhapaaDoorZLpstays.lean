import Derived.Test.YtiffendfojhapaaDoorZLpadds
set_option linter.unusedVariables false
set_option linter.unusedSimpArgs false
/- The walk of the law PedersenStays. -/
namespace Go.Proofs.YtiffendfojhapaaDoor
open Go.RowKit

theorem take_at {cur : Array Value} {n : Nat} {L : List Nat} (h : cur.toList.take n = N64 L) (hn : L.length = n) {i : Nat} (hi : i < n) : cur[i]? = some (.int .u64 ((L.getD i 0 : Nat) : Int)) := by
  have h1 : (cur.toList.take n)[i]? = (N64 L)[i]? := by rw [h]
  rw [List.getElem?_take, if_pos hi, List.getElem?_map, List.getElem?_eq_getElem (l := L) (by omega)] at h1
  rw [List.getD_eq_getElem?_getD, List.getElem?_eq_getElem (l := L) (by omega)]
  simpa using h1
set_option maxRecDepth 8000 in
set_option maxHeartbeats 40000000 in
theorem walkPStays (w : World) (hG : RowsAt w) (ao1 : Option Addr) (len1 cap1 : Nat) (V1 : List Nat) (HV1 : U64 len1 V1) (hl1 : len1 ≤ cap1) (hc1 : cap1 ≤ 9223372036854775807) (hn1 : ao1 = none → len1 = 0 ∧ cap1 = 0) (hb1 : 0 < len1 → ∃ b o, ao1 = some ⟨b, o, none⟩ ∧ UL w b o V1) (x : Int) (x0 : 0 ≤ x) (x1 : x ≤ 18446744073709551615) :
    Calls Tryd.prog 14 #[.slice ao1 len1 cap1, .int .u64 x] w fun e w' => e = .returned (.bool true) ∧ Below w.heap.size w w' := by
  have hU := Lib.hid (fun W hw => up8 W (hG.below hw))
  have hS1 := Lib.hid (slu_of HV1 hl1 hc1 hn1 hb1)
  have Hn := Lib.hid hn1
  have Hb := Lib.hid hb1
  replace HV1 := Lib.hid HV1
  have hG' := Lib.hid hG
  have hl1' : (len1 : Int) ≤ 9223372036854775807 := by omega
  clear hn1 hb1 hG hl1 hc1
  by_cases h4 : 4 < len1
  · have h4' : (4 : Int) < len1 := by omega
    go_enter Tryd.func14, Tryd.ntmps14
    go_wp2_with fail
    refine (hU.out _ (Below.refl _ _)).mono ?_
    rintro e w1 ⟨rfl, hb1⟩
    have H1 := Lib.hid (HR.next (HR.refl w) hb1)
    clear hb1
    go_wp2_with fail
    go_ret
    exact ⟨rfl, H1.out.2⟩
  have h4' : (len1 : Int) ≤ 4 := by omega
  obtain ⟨p, hp⟩ := com_some x.toNat V1 len1 (by omega)
  obtain ⟨px, py, px0, py0, -, -, hvp, -⟩ := coordsN p
  have cA := fun W (hw : Below w.heap.size w W) a c hS => pCommitY x x0 x1 a len1 c V1 HV1.out (by omega) p hp W hS (hG'.out.below hw)
  rw [hvp] at cA
  replace cA := Lib.hid cA
  clear hp hvp
  go_enter Tryd.func14, Tryd.ntmps14
  go_wp2_with fail
  refine (hU.out _ (Below.refl _ _)).mono ?_
  rintro e w1 ⟨rfl, hb1⟩
  have H1 := Lib.hid (HR.next (HR.refl w) hb1)
  clear hb1
  obtain ⟨v', w2, hap, hvn, hO2, hbw2⟩ := append_copyU w1 ao1 len1 cap1 V1 HV1.out.len (by omega) Hn.out (fun h => by
    obtain ⟨b, o, e1, e2⟩ := Hb.out h
    exact ⟨b, o, e1, e2.below H1.out.2 (e2.lt (by rw [HV1.out.len]; exact h))⟩)
  obtain ⟨g, cap2, cur, rfl, hg, hrow, hlc, hcm, hcs, htk⟩ := hO2.row hvn
  have hz1 := H1.out.2.size
  have hSl : SlU w2.heap.size w2 (some ⟨g, 0, none⟩) cap2 V1 := ⟨hlc, (by unfold maxLen at hcm; omega), (fun h => by cases h), fun _ => ⟨g, 0, rfl, hrow.lt, hO2.ul⟩⟩
  rw [HV1.out.len] at hap hlc htk
  have H2 := Lib.hid ((H1.out.next hbw2).add hrow)
  have hcu := Lib.hid (show cur.size = cap2 ∧ ∀ i, 0 ≤ i → i < len1 → cur[i]? = some (.int .u64 ((V1.getD i 0 : Nat) : Int)) from ⟨hcs, fun i _ hi => take_at htk HV1.out.len hi⟩)
  replace hSl := Lib.hid hSl
  have hgw : w.heap.size ≤ g := by omega
  clear hbw2 hO2 H1 hvn hrow hcs htk hcm hg hz1
  go_wp2_with (at_builtin; refine wpList_appended rfl _ _ _ _ rfl _ _ _ rfl rfl hap ?_)
  clear hap
  refine (cA.out _ H2.out.2 _ _ hSl.out).mono ?_
  rintro e w3 ⟨rfl, hb3⟩
  have H3 := Lib.hid ((H2.out.next hb3).new #[.int .u64 px, .int .u64 py] 37)
  have hgb : g < w3.heap.size := (H2.out.next hb3).lt (b := g) (cs := cur) (t := 31) (by simp)
  clear hb3 H2 hSl
  go_upto_region 6 with fail
  generalize w3.alloc (.cells #[.int .u64 px, .int .u64 py] 37) = w4 at H3 ⊢
  generalize w3.heap.size = b7 at H3 hgb ⊢
  have hgne : b7 ≠ g := by omega
  have hlc' : (len1 : Int) ≤ cap2 := by omega
  go_wp2_with fail
  go_loopw [9] (fun q1 wr => ∃ (j : Nat) (cu : Array Value), q1 = .int .i64 (j : Int) ∧ j ≤ len1 ∧ Hid (cu.size = cap2 ∧ ∀ i, j ≤ i → i < len1 → cu[i]? = some (.int .u64 ((V1.getD i 0 : Nat) : Int))) ∧ Hid (HR w wr [(g, cu, 31), (b7, #[.int .u64 px, .int .u64 py], 37)])) (fun q1 _ => (len1 - intOf q1).toNat)
  case atStart => exact ⟨0, cur, rfl, Nat.zero_le _, hcu, Lib.hid (HR.sub (qs := [(g, cur, 31), (b7, #[.int .u64 px, .int .u64 py], 37)]) H3.out (by simp))⟩
  case round =>
    clear H3 hcu
    rename World => wr
    obtain ⟨j, cu, rfl, hj, hcu, H⟩ := hrel
    obtain ⟨i, hi⟩ : ∃ i : Int, (j : Int) = i := ⟨_, rfl⟩
    rw [hi]
    have i0 : 0 ≤ i := by omega
    by_cases hjl : j < len1
    · have i1 : i < (len1 : Int) := by omega
      obtain ⟨v, hv, v0, v1⟩ := u64_at HV1.out (i := i) (by omega) (by omega)
      obtain ⟨vb, vo, rfl, hvb, hul⟩ := hS1.out.bl (by rw [HV1.out.len]; omega)
      have cv : wr.cell? ⟨vb, vo + i.toNat, none⟩ = some (.int .u64 v) := by rw [← hv]; exact (hul.below H.out.2 hvb) i.toNat (by rw [HV1.out.len]; omega)
      have cg : wr.cell? ⟨g, i.toNat, none⟩ = some (.int .u64 v) := H.out.cell (b := g) (cs := cu) (t := 31) (by simp) i.toNat (by rw [← hv]; exact hcu.out.2 i.toNat (by omega) (by omega))
      have fg : wr.frozen? ⟨g, i.toNat, none⟩ = false := H.out.free (b := g) (cs := cu) (t := 31) (by simp) i.toNat
      have HN := Lib.hid (HR.put H.out (by simpa using hgne) hgw i.toNat (.int .u64 (IntKind.u64.wrap (v + 1))))
      have hcN : Hid ((cu.setIfInBounds i.toNat (.int .u64 (IntKind.u64.wrap (v + 1)))).size = cap2 ∧ ∀ k, j + 1 ≤ k → k < len1 → (cu.setIfInBounds i.toNat (.int .u64 (IntKind.u64.wrap (v + 1))))[k]? = some (.int .u64 ((V1.getD k 0 : Nat) : Int))) := Lib.hid ⟨by rw [Array.size_setIfInBounds]; exact hcu.out.1, fun k hk hk2 => by
        rw [Array.getElem?_setIfInBounds_ne (by omega)]
        exact hcu.out.2 k (by omega) hk2⟩
      replace hv := Lib.hid hv
      replace hvb := Lib.hid hvb
      go_wp2_with fail
      refine wp_region_noPanic ?_
      refine wp_region_held_drew (S := fun wq => wq.cell? ⟨g, i.toNat, none⟩ = some (.int .u64 v) ∧ wq.cell? ⟨vb, vo + i.toNat, none⟩ = some (.int .u64 v)) (by kernel_rfl) ?_ (fun hHeld => ?_)
      · exact ⟨cg, cv⟩
      refine takeH 0 (fun _ _ _ _ _ h => h) (by kernel_rfl) hHeld rfl (by kernel_rfl) (by rfl) (v := ?_) ?_ ?_
      rotate_left
      ((intro wz hz; (try dsimp only at hz); go_simp) <;> with_reducible rfl)
      try simp only [Act.put, List.setIfInBounds_toArray, List.set_cons_zero, List.set_cons_succ]
      refine takeH 1 (fun _ _ _ _ _ h => h) (by kernel_rfl) hHeld rfl (by kernel_rfl) (by rfl) (v := ?_) ?_ ?_
      rotate_left
      ((intro wz hz; (try dsimp only at hz); go_simp) <;> with_reducible rfl)
      try simp only [Act.put, List.setIfInBounds_toArray, List.set_cons_zero, List.set_cons_succ]
      refine takeH 2 (fun _ _ _ _ _ h => h) (by kernel_rfl) hHeld rfl (by kernel_rfl) (by rfl) (v := ?_) ?_ ?_
      rotate_left
      ((intro wz hz; (try dsimp only at hz); go_simp) <;> with_reducible rfl)
      try simp only [Act.put, List.setIfInBounds_toArray, List.set_cons_zero, List.set_cons_succ]
      refine takeH 3 (fun _ _ _ _ _ h => h) (by kernel_rfl) hHeld rfl (by kernel_rfl) (by rfl) (v := ?_) ?_ ?_
      rotate_left
      ((intro wz hz; (try dsimp only at hz); go_simp) <;> with_reducible rfl)
      try simp only [Act.put, List.setIfInBounds_toArray, List.set_cons_zero, List.set_cons_succ]
      refine takeH 4 (fun _ _ _ _ _ h => h) (by kernel_rfl) hHeld rfl (by kernel_rfl) (by rfl) (v := ?_) ?_ ?_
      rotate_left
      ((intro wz hz; (try dsimp only at hz); go_simp) <;> with_reducible rfl)
      try simp only [Act.put, List.setIfInBounds_toArray, List.set_cons_zero, List.set_cons_succ]
      refine takeH 5 (fun _ _ _ _ _ h => h) (by kernel_rfl) hHeld rfl (by kernel_rfl) (by rfl) (v := ?_) ?_ ?_
      rotate_left
      ((intro wz hz; (try dsimp only at hz); go_simp) <;> with_reducible rfl)
      try simp only [Act.put, List.setIfInBounds_toArray, List.set_cons_zero, List.set_cons_succ]
      refine takeH 6 (fun _ _ _ _ _ h => h) (by kernel_rfl) hHeld rfl (by kernel_rfl) (by rfl) (v := ?_) ?_ ?_
      rotate_left
      ((intro wz hz; (try dsimp only at hz); go_simp) <;> with_reducible rfl)
      try simp only [Act.put, List.setIfInBounds_toArray, List.set_cons_zero, List.set_cons_succ]
      refine takeH 7 (fun _ _ _ _ _ h => h) (by kernel_rfl) hHeld rfl (by kernel_rfl) (by rfl) (v := ?_) ?_ ?_
      rotate_left
      ((intro wz hz; (try dsimp only at hz); go_simp) <;> with_reducible rfl)
      try simp only [Act.put, List.setIfInBounds_toArray, List.set_cons_zero, List.set_cons_succ]
      refine takeH 8 (fun _ _ _ _ _ h => h) (by kernel_rfl) hHeld rfl (by kernel_rfl) (by rfl) (v := .bool false) ?_ ?_
      · intro wz hz
        (try dsimp only at hz)
        go_simp
      try simp only [Act.put, List.setIfInBounds_toArray, List.set_cons_zero, List.set_cons_succ]
      refine wpAnyH_done (by kernel_rfl) (NoPanic.normal ?_) _
      clear hHeld
      go_wp2_with fail
      go_roundw
      case rel => exact ⟨j + 1, _, by simp; omega, by omega, hcN, Lib.hid HN.out.drew⟩
      case measure => simp [intOf]; omega
    · obtain rfl : j = len1 := by omega
      have i1 : ¬ i < (j : Int) := by omega
      have H4 := Lib.hid (HR.sub (qs := [(b7, #[.int .u64 px, .int .u64 py], 37)]) H.out (by simp))
      clear H
      have c_b7_0 := H4.out.cell (b := b7) (cs := #[.int .u64 px, .int .u64 py]) (t := 37) (by simp) 0 rfl
      have c_b7_1 := H4.out.cell (b := b7) (cs := #[.int .u64 px, .int .u64 py]) (t := 37) (by simp) 1 rfl
      go_wp2_with fail
      refine (cA.out _ H4.out.2 _ _ (hS1.out.at H4.out.2)).mono ?_
      rintro e v2 ⟨rfl, hv2⟩
      have K2 := Lib.hid ((H4.out.next hv2).new #[.int .u64 px, .int .u64 py] 37)
      clear c_b7_0 c_b7_1
      go_upto_region 13 with fail
      generalize v2.alloc (.cells #[.int .u64 px, .int .u64 py] 37) = u2 at K2 ⊢
      generalize v2.heap.size = b10 at K2 ⊢
      clear hv2 H4
      have c_b10_0 := K2.out.cell (b := b10) (cs := #[.int .u64 px, .int .u64 py]) (t := 37) (by simp) 0 rfl
      have c_b10_1 := K2.out.cell (b := b10) (cs := #[.int .u64 px, .int .u64 py]) (t := 37) (by simp) 1 rfl
      have c_b7_0 := K2.out.cell (b := b7) (cs := #[.int .u64 px, .int .u64 py]) (t := 37) (by simp) 0 rfl
      have c_b7_1 := K2.out.cell (b := b7) (cs := #[.int .u64 px, .int .u64 py]) (t := 37) (by simp) 1 rfl
      go_wp2_with fail
      go_wp2_with fail
      go_ret
      exact ⟨rfl, K2.out.2⟩

end Go.Proofs.YtiffendfojhapaaDoor
