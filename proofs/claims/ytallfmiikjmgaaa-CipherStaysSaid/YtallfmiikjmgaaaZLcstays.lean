import Derived.Test.YtallfmiikjmgaaaZL6base
set_option linter.unusedVariables false
set_option linter.unusedSimpArgs false
/- The walk of the law CipherStays. -/
namespace Go.Proofs.Ytallfmiikjmgaaa
open Go.RowKit

theorem SlI.argL {w W : World} {ao : Option Addr} {len cap : Nat} {L : List Nat} (h : SlI w.heap.size w ao cap L) (x : B8 len L) (hb : Below w.heap.size w W) : (ao = none → len = 0 ∧ cap = 0) ∧ (0 < len → ∃ b o, ao = some ⟨b, o, none⟩ ∧ BL W b o L) := by
  have := (h.next hb).arg
  rwa [x.len] at this
theorem own_key {w : World} {base g n cap : Nat} {L : List Nat} (h : OwnB w base (.slice (some ⟨g, 0, none⟩) n cap) L) : g < w.heap.size ∧ BL w g 0 L ∧ n ≤ cap := by
  have hl := own_bl_len h
  exact ⟨own_lt h, own_blz h hl, by have := (own_cap h).1; omega⟩
theorem own_seg {w : World} {base g n cap : Nat} {L : List Nat} (h : OwnB w base (.slice (some ⟨g, 0, none⟩) n cap) L) (hL : ∀ i, L.getD i 0 < 256) (hn : n ≤ 1000000) : Seg w.heap.size w (.slice (some ⟨g, 0, none⟩) n cap) L := by
  have hl := own_bl_len h
  exact ⟨_, cap, by rw [hl], own_sli h, hL, by omega⟩
theorem own_put {w : World} {base n cap b o : Nat} {a : Option Addr} {u : Value} {L : List Nat} (h : OwnB w base (.slice a n cap) L) (hb : b < base) : OwnB (w.setCell ⟨b, o, none⟩ u) base (.slice a n cap) L := by
  by_cases hv : Value.slice a n cap = .slice none 0 0
  · rw [hv] at h ⊢
    refine ⟨h.1, ?_⟩
    rcases h.2 with h | ⟨g', cap', cur, h1, _⟩
    · exact .inl h
    · cases h1
  · obtain ⟨g, c, he⟩ := own_shape h hv
    rw [he] at h ⊢
    exact own_other h (by have := own_ge h; omega)

set_option maxRecDepth 8000 in
set_option maxHeartbeats 8000000 in
theorem walkCStays (w : World) (a0 : Option Addr) (l0 k0 : Nat) (L0 : List Nat) (x0 : B8 l0 L0) (hl0 : l0 ≤ k0) (hc0 : k0 ≤ 9223372036854775807) (hn0 : a0 = none → l0 = 0 ∧ k0 = 0) (hb0 : 0 < l0 → ∃ b o, a0 = some ⟨b, o, none⟩ ∧ BL w b o L0) (a1 : Option Addr) (l1 k1 : Nat) (L1 : List Nat) (x1 : B8 l1 L1) (hl1 : l1 ≤ k1) (hc1 : k1 ≤ 9223372036854775807) (hn1 : a1 = none → l1 = 0 ∧ k1 = 0) (hb1 : 0 < l1 → ∃ b o, a1 = some ⟨b, o, none⟩ ∧ BL w b o L1) (a2 : Option Addr) (l2 k2 : Nat) (L2 : List Nat) (x2 : B8 l2 L2) (hl2 : l2 ≤ k2) (hc2 : k2 ≤ 9223372036854775807) (hn2 : a2 = none → l2 = 0 ∧ k2 = 0) (hb2 : 0 < l2 → ∃ b o, a2 = some ⟨b, o, none⟩ ∧ BL w b o L2) (a3 : Option Addr) (l3 k3 : Nat) (L3 : List Nat) (x3 : B8 l3 L3) (hl3 : l3 ≤ k3) (hc3 : k3 ≤ 9223372036854775807) (hn3 : a3 = none → l3 = 0 ∧ k3 = 0) (hb3 : 0 < l3 → ∃ b o, a3 = some ⟨b, o, none⟩ ∧ BL w b o L3) :
    Calls Try.prog 7 #[.slice a0 l0 k0, .slice a1 l1 k1, .slice a2 l2 k2, .slice a3 l3 k3] w fun e w' => e = .returned (.bool true) ∧ Below w.heap.size w w' := by
  have S0 := Lib.hid (sl6 x0 hl0 hc0 hn0 hb0)
  have S1 := Lib.hid (sl6 x1 hl1 hc1 hn1 hb1)
  have S2 := Lib.hid (sl6 x2 hl2 hc2 hn2 hb2)
  have S3 := Lib.hid (sl6 x3 hl3 hc3 hn3 hb3)
  have cU := Lib.hid (up6 w)
  clear hn0 hb0 hn1 hb1 hn2 hb2 hn3 hb3
  go_enter Try.func7, Try.ntmps7
  go_wp2_with fail
  refine cU.out.mono ?_
  rintro e w1 ⟨rfl, hb1⟩
  have B1 := Lib.hid hb1
  clear hb1 cU
  by_cases hk : l0 = 32 ∧ l1 = 12
  case neg =>
    have cF := Lib.hid (fun W => lFitsN a0 a1 l0 l1 k0 k1 hk W)
    replace hk := Lib.hid hk
    go_wp2_with fail
    refine (cF.out _).mono ?_
    rintro e w2' ⟨rfl, rfl⟩
    go_wp2_with fail
    go_ret
    exact ⟨rfl, B1.out⟩
  obtain ⟨rfl, rfl⟩ := hk
  go_wp2_with fail
  refine (lFitsY _ _ _ _ _).mono ?_
  rintro e w1' ⟨rfl, rfl⟩
  by_cases h2 : 500 < l2
  · have h2i : (500 : Int) < (l2 : Int) := by omega
    go_wp2_with fail
    go_ret
    exact ⟨rfl, B1.out⟩
  have h2i : ¬ (500 : Int) < (l2 : Int) := by omega
  by_cases h3 : 500 < l3
  · have h3i : (500 : Int) < (l3 : Int) := by omega
    go_wp2_with fail
    go_ret
    exact ⟨rfl, B1.out⟩
  have h3i : ¬ (500 : Int) < (l3 : Int) := by omega
  go_upto_region 5 with fail
  obtain ⟨g0, c0, w2, hap, hO0, hbw2⟩ := append_copy w1' a0 _ k0 L0 x0.len (by omega) (S0.out.argL x0 B1.out).1 (S0.out.argL x0 B1.out).2
  have Bw2 := Lib.hid (bThen B1.out hbw2 B1.out.size)
  have O0 := Lib.hid (hO0.base (show w.heap.size ≤ w1'.heap.size from B1.out.size))
  clear hO0 hbw2 B1
  go_upto_region 6 with (at_builtin; refine wpList_appended rfl _ _ _ _ rfl _ _ _ rfl rfl hap ?_)
  clear hap
  obtain ⟨g1, c1, w3, hap, hO1, hbw3⟩ := append_copy w2 a1 _ k1 L1 x1.len (by omega) (S1.out.argL x1 Bw2.out).1 (S1.out.argL x1 Bw2.out).2
  have Bw3 := Lib.hid (bThen Bw2.out hbw3 Bw2.out.size)
  have O0n := Lib.hid (O0.out.below hbw3)
  clear O0
  have O0 := O0n
  clear O0n
  have O1 := Lib.hid (hO1.base (show w.heap.size ≤ w2.heap.size from Bw2.out.size))
  clear hO1 hbw3 Bw2
  go_upto_region 7 with (at_builtin; refine wpList_appended rfl _ _ _ _ rfl _ _ _ rfl rfl hap ?_)
  clear hap
  obtain ⟨g2, c2, w4, hap, hO2, hbw4⟩ := append_copy w3 a2 _ k2 L2 x2.len (by omega) (S2.out.argL x2 Bw3.out).1 (S2.out.argL x2 Bw3.out).2
  have Bw4 := Lib.hid (bThen Bw3.out hbw4 Bw3.out.size)
  have O0n := Lib.hid (O0.out.below hbw4)
  clear O0
  have O0 := O0n
  clear O0n
  have O1n := Lib.hid (O1.out.below hbw4)
  clear O1
  have O1 := O1n
  clear O1n
  have O2 := Lib.hid (hO2.base (show w.heap.size ≤ w3.heap.size from Bw3.out.size))
  clear hO2 hbw4 Bw3
  go_upto_region 8 with (at_builtin; refine wpList_appended rfl _ _ _ _ rfl _ _ _ rfl rfl hap ?_)
  clear hap
  obtain ⟨g3, c3, w5, hap, hO3, hbw5⟩ := append_copy w4 a3 _ k3 L3 x3.len (by omega) (S3.out.argL x3 Bw4.out).1 (S3.out.argL x3 Bw4.out).2
  have Bw5 := Lib.hid (bThen Bw4.out hbw5 Bw4.out.size)
  have O0n := Lib.hid (O0.out.below hbw5)
  clear O0
  have O0 := O0n
  clear O0n
  have O1n := Lib.hid (O1.out.below hbw5)
  clear O1
  have O1 := O1n
  clear O1n
  have O2n := Lib.hid (O2.out.below hbw5)
  clear O2
  have O2 := O2n
  clear O2n
  have O3 := Lib.hid (hO3.base (show w.heap.size ≤ w4.heap.size from Bw4.out.size))
  have hg3 := Lib.hid (own_lt hO3)
  clear hO3 hbw5 Bw4
  go_upto_region 9 with (at_builtin; refine wpList_appended rfl _ _ _ _ rfl _ _ _ rfl rfl hap ?_)
  clear hap
  have hwt := Lib.hid (Bw5.out.size)
  obtain ⟨hk1, hk2, hk3⟩ := own_key O0.out
  obtain ⟨hn1, hn2, hn3⟩ := own_key O1.out
  have cS := Lib.hid (qSeal g0 0 c0 g1 0 c1 L0 L1 x0 x1 hk3 hn3 (.slice (some ⟨g2, 0, none⟩) l2 c2) L2 (some ⟨g3, 0, none⟩) l3 c3 L3 x3 (by omega) w5 hk1 hn1 hk2 hn2 (own_seg O2.out x2.lt (by omega)) (own_sli O3.out))
  clear hk1 hk2 hk3 hn1 hn2 hn3
  go_wp2_with fail
  refine cS.out.mono ?_
  rintro e w6 ⟨gs, cs, rfl, hO, hb6⟩
  have hgs := Lib.hid (own_ge hO)
  have hgs2 := Lib.hid (own_lt hO)
  have OS := Lib.hid (hO.base hwt.out)
  have B6 := Lib.hid (bThen Bw5.out hb6 Bw5.out.size)
  have P0 := Lib.hid (O0.out.below hb6)
  have P1 := Lib.hid (O1.out.below hb6)
  have P2 := Lib.hid (O2.out.below hb6)
  have P3 := Lib.hid (O3.out.below hb6)
  clear O0 O1 O2 O3 hO hb6 cS Bw5
  have hSl := Obol.sealed_len L0 L1 L2 L3
  rw [x3.len] at hSl
  have hSb := Obol.sealed_lt L0 L1 L2 x3.lt
  obtain ⟨hk1, hk2, hk3⟩ := own_key P0.out
  obtain ⟨hn1, hn2, hn3⟩ := own_key P1.out
  have cO := qOpen g0 0 c0 g1 0 c1 L0 L1 x0 x1 hk3 hn3 (.slice (some ⟨g2, 0, none⟩) l2 c2) L2 (some ⟨gs, 0, none⟩) l3 cs _ ⟨hSl, hSb⟩ (by omega) w6 hk1 hn1 hk2 hn2 (own_seg P2.out x2.lt (by omega)) (own_sli OS.out)
  rw [Obol.back_take L0 L1 L2 L3 x3.len, Obol.back_drop L0 L1 L2 L3 x3.len, Obol.strm_back] at cO
  replace cO := Lib.hid cO
  obtain ⟨bk, ok, e0, hbk, hBK, hck⟩ := S0.out.key x0 (by omega)
  obtain ⟨bn, on, e1, hbn, hBN, hcn⟩ := S1.out.key x1 (by omega)
  have cS2 := Lib.hid (fun W (hw : Below w.heap.size w W) => qSeal bk ok k0 bn on k1 L0 L1 x0 x1 hck hcn (.slice a2 l2 k2) L2 a3 l3 k3 L3 x3 (by omega) W (Nat.lt_of_lt_of_le hbk hw.size) (Nat.lt_of_lt_of_le hbn hw.size) (hBK.below hw hbk) (hBN.below hw hbn) ((S2.out.next hw).seg x2 (by omega)) (S3.out.next hw))
  rw [← e0, ← e1] at cS2
  clear hbk hBK hck hbn hBN hcn hk1 hk2 hk3 hn1 hn2 hn3 e0 e1
  obtain ⟨S, hS⟩ : ∃ l, Obol.strm L0 L1 L3 ++ Obol.bothL L0 L1 L2 (Obol.strm L0 L1 L3) = l := ⟨_, rfl⟩
  rw [hS] at OS cS2 hSl hSb
  replace hS := Lib.hid hS
  have z1 := own_conv OS.out
  have z2 := own_conv P0.out
  have z3 := own_conv P1.out
  have z4 := own_conv P2.out
  have z5 := own_conv P3.out
  have z6 := (S0.out.next B6.out).conv x0.len
  have z7 := (S1.out.next B6.out).conv x1.len
  have z8 := (S2.out.next B6.out).conv x2.len
  have z9 := (S3.out.next B6.out).conv x3.len
  go_wp2_with fail
  clear z1 z2 z3 z4 z5 z6 z7 z8 z9 P0 P1 P2
  refine cO.out.mono ?_
  rintro e w7 ⟨he, hb7⟩
  rcases he with ⟨-, a5, c5, rfl, hO5⟩ | ⟨hne, -⟩
  case inr => exact absurd rfl hne
  have B7 := Lib.hid (bThen B6.out hb7 B6.out.size)
  have OS7 := Lib.hid (OS.out.below hb7)
  have P37 := Lib.hid (P3.out.below hb7)
  have U7 := Lib.hid hO5
  have hgs7 := Lib.hid (Nat.lt_of_lt_of_le hgs2.out hb7.size)
  have hb67 := Lib.hid hb7.size
  clear hO5 hb7 OS P3 cO B6
  have z1 := own_conv OS7.out
  go_upto_region 14 with fail
  clear z1
  have hcp := own_cap OS7.out
  have hci : (l3 : Int) + 16 ≤ (cs : Int) := by omega
  go_wp2_with fail
  go_loopw [21] (fun q wr => ∃ i : Int, q = .int .i64 i ∧ Hid (LoI w.heap.size wr gs cs (l3 + 16) i) ∧ Hid (OwnB wr w6.heap.size (.slice a5 l3 c5) L3) ∧ Hid (OwnB wr w.heap.size (.slice (some ⟨g3, 0, none⟩) l3 c3) L3) ∧ Hid (Below w.heap.size w wr)) (fun q _ => l3 + 16 - (intOf q).toNat)
  case atStart => exact ⟨0, rfl, Lib.hid ⟨by omega, by omega, S, hSl, hSb, OS7.out⟩, U7, P37, B7⟩
  case round =>
    clear OS7 U7 P37 B7
    rename World => wr
    obtain ⟨i, rfl, HL, U, P, HB⟩ := hrel
    have i0 := HL.out.1
    have i1 := HL.out.2.1
    by_cases hi : i < ((l3 + 16 : Nat) : Int)
    · have hi2 : i < (l3 : Int) + 16 := by omega
      obtain ⟨v, cv, fv, v0, v1, HN⟩ := HL.out.step hi
      have HN2 := Lib.hid HN
      have UN := Lib.hid (own_put (o := i.toNat) (u := .int .u8 ((v + 1) % 256)) U.out hgs2.out)
      have PN := Lib.hid (own_other (b := gs) (o := i.toNat) (u := .int .u8 ((v + 1) % 256)) P.out (by have := hg3.out; have := hgs.out; omega))
      have HB2 := Lib.hid (bSet (b := gs) (o := i.toNat) (u := .int .u8 ((v + 1) % 256)) HB.out (by have := hgs.out; have := hwt.out; omega))
      clear HN HL U P HB
      go_wp2_with fail
      go_roundw
      case rel => exact ⟨i + 1, rfl, HN2, UN, PN, HB2⟩
      case measure => simp [intOf]; omega
    · have hi2 : ¬ i < (l3 : Int) + 16 := by omega
      clear HL i0 i1 hi
      go_upto_block 2 with fail
      go_cut [22] from 119 to 132 (fun q wc => Hid (OwnB wc w.heap.size (.slice (some ⟨g3, 0, none⟩) l3 c3) L3) ∧ Hid (Below w.heap.size w wc))
      case first =>
        rcases U.out.2 with ⟨hv, h0⟩ | ⟨g5, cap5, cur5, hv, hge5, hr5, hle5, hm5, hsz5, htk5⟩
        · have hl0 : l3 = 0 := by rw [x3.len] at h0; exact h0
          have hl0i : ¬ (0 : Int) < (l3 : Int) := by omega
          replace hl0 := Lib.hid hl0
          clear hv U h0
          go_wp2_with fail
          go_loopw [22] (fun q wr => q = .int .i64 0 ∧ Hid (OwnB wr w.heap.size (.slice (some ⟨g3, 0, none⟩) l3 c3) L3) ∧ Hid (Below w.heap.size w wr)) (fun _ _ => 0)
          case atStart => exact ⟨rfl, P, HB⟩
          case round =>
            clear P HB
            rename World => wv
            obtain ⟨rfl, P, HB⟩ := hrel
            go_wp2_with fail
            go_meet
            exact ⟨P, HB⟩
        · have hl5 := x3.len
          rw [hl5] at hv
          simp only [Value.slice.injEq] at hv
          obtain ⟨rfl, -, rfl⟩ := hv
          have hg5 := own_ge U.out
          have hcp5 := own_cap U.out
          have hci5 : (l3 : Int) ≤ (c5 : Int) := by omega
          have hgg : Hid (w.heap.size ≤ g5 ∧ g3 ≠ g5) := Lib.hid (by have := hg3.out; have := hgs.out; have := hgs2.out; have := hwt.out; omega)
          clear hge5 hr5 hle5 hm5 hsz5 htk5
          go_wp2_with fail
          go_loopw [22] (fun q wr => ∃ i : Int, q = .int .i64 i ∧ Hid (LoI w6.heap.size wr g5 c5 l3 i) ∧ Hid (OwnB wr w.heap.size (.slice (some ⟨g3, 0, none⟩) l3 c3) L3) ∧ Hid (Below w.heap.size w wr)) (fun q _ => l3 - (intOf q).toNat)
          case atStart => exact ⟨0, rfl, Lib.hid ⟨by omega, by omega, L3, x3.len, x3.lt, U.out⟩, P, HB⟩
          case round =>
            clear U P HB
            rename World => wv
            obtain ⟨i, rfl, HL, P, HB⟩ := hrel
            have i0 := HL.out.1
            have i1 := HL.out.2.1
            by_cases hi : i < (l3 : Int)
            · obtain ⟨v, cv, fv, v0, v1, HN⟩ := HL.out.step hi
              have HN2 := Lib.hid HN
              have PN := Lib.hid (own_other (b := g5) (o := i.toNat) (u := .int .u8 ((v + 1) % 256)) P.out hgg.out.2)
              have HB2 := Lib.hid (bSet (b := g5) (o := i.toNat) (u := .int .u8 ((v + 1) % 256)) HB.out hgg.out.1)
              clear HN HL P HB
              go_wp2_with fail
              go_roundw
              case rel => exact ⟨i + 1, rfl, HN2, PN, HB2⟩
              case measure => simp [intOf]; omega
            · clear HL i0 i1
              go_wp2_with fail
              go_meet
              exact ⟨P, HB⟩
      case' rest =>
        rename World => wz
        obtain ⟨P, HB⟩ := hcut
      clear U
      have cS3 := Lib.hid (cS2.out wz HB.out)
      go_wp2_with fail
      refine cS3.out.mono ?_
      rintro e wq ⟨g9, c9, rfl, hO9, hb9⟩
      have B9 := Lib.hid (bThen HB.out hb9 HB.out.size)
      have z1 := own_conv hO9
      have z2 := own_conv (P.out.below hb9)
      have z3 := (S3.out.next B9.out).conv x3.len
      clear hO9 hb9 P HB cS3
      go_wp2_with fail
      go_ret
      exact ⟨rfl, B9.out⟩

end Go.Proofs.Ytallfmiikjmgaaa
