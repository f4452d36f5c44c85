import Derived.Test.YtallfmiikjmgaaaDoorZWcmark
import Derived.Test.YtallfmiikjmgaaaDoorZWcopy
import Derived.Test.YtallfmiikjmgaaaDoorZPcip
import Derived.Laws.Cover3
set_option linter.unusedVariables false
set_option linter.unusedSimpArgs false
/- Walks: package cipher: a text xor the stream. -/
namespace Obol
def xorM (n j : Nat) : Nat := min n (64 * ((j + 63) / 64))
end Obol
namespace Go.Proofs.YtallfmiikjmgaaaDoor
open Go.RowKit

theorem eq_nil8 (W : World) (a : Option Addr) (l c : Nat) : (binOp .eql 42 (.slice a l c) (.slice none 0 0)).run Tryd.prog W = .ok (.bool a.isNone) W := by
  simp only [binOp]
  simp [run_equal_slice_nil W 42 5 a l c Tryd.underlying42]
set_option maxRecDepth 8000 in
theorem qCloneN (w : World) : Calls Tryd.prog 92 #[.slice none 0 0] w fun e w' => e = .returned (.slice none 0 0) ∧ w' = w := by
  have hq := fun W => eq_nil8 W none 0 0
  rw [Option.isNone_none] at hq
  go_enter Tryd.func92, Tryd.ntmps92
  go_wp2_with fail
  go_ret
  exact ⟨rfl, rfl⟩
set_option maxRecDepth 8000 in
theorem qClone (ad : Addr) (len cap : Nat) (L : List Nat) (H : L.length = len) (hl : len ≤ 100000000) (w : World) (hc : 0 < len → ∃ b o, some ad = some ⟨b, o, none⟩ ∧ BL w b o L) :
    Calls Tryd.prog 92 #[.slice (some ad) len cap] w fun e w' => ∃ g cap2, e = .returned (.slice (some ⟨g, 0, none⟩) len cap2) ∧ OwnB w' w.heap.size (.slice (some ⟨g, 0, none⟩) len cap2) L ∧ Below w.heap.size w w' := by
  obtain ⟨g, cap2, w1, hap, hO, hb1⟩ := append_copy w (some ad) len cap L H hl (fun h => by cases h) hc
  replace hO := Lib.hid hO
  replace hb1 := Lib.hid hb1
  clear hc
  have hq := fun W => eq_nil8 W (some ad) len cap
  rw [Option.isNone_some] at hq
  go_enter Tryd.func92, Tryd.ntmps92
  go_wp2_with (at_builtin; refine wpList_appended rfl _ _ _ _ rfl _ _ _ rfl rfl hap ?_)
  go_ret
  exact ⟨g, cap2, rfl, hO.out, hb1.out⟩

theorem own_bl_len {w : World} {base g n cap : Nat} {L : List Nat} (h : OwnB w base (.slice (some ⟨g, 0, none⟩) n cap) L) : L.length = n := by
  rcases h.2 with ⟨h, _⟩ | ⟨g', cap', cur, h1, _⟩
  · cases h
  · simp only [Value.slice.injEq] at h1; exact h1.2.1.symm

set_option maxRecDepth 8000 in
set_option maxHeartbeats 8000000 in
theorem qStream (bk ok ck bn on cn : Nat) (K N : List Nat) (HK : B8 32 K) (HN : B8 12 N) (hck : 32 ≤ ck) (hcn : 12 ≤ cn) (ao : Option Addr) (len cap : Nat) (T : List Nat) (HT0 : B8 len T) (hl : len ≤ 1000000) (w : World) (hbk : bk < w.heap.size) (hbn : bn < w.heap.size) (hBK : BL w bk ok K) (hBN : BL w bn on N) (hS : SlI w.heap.size w ao cap T) :
    Calls Tryd.prog 67 #[.slice (some ⟨bk, ok, none⟩) 32 ck, .slice (some ⟨bn, on, none⟩) 12 cn, .slice ao len cap] w fun e w' => ∃ a2 c2, e = .returned (.tuple #[.slice a2 len c2, .nilIface]) ∧ OwnB w' w.heap.size (.slice a2 len c2) (Obol.strm K N T) ∧ Below w.heap.size w w' := by
  cases ao with
  | none =>
    obtain ⟨h1, rfl⟩ := hS.no rfl
    obtain rfl : len = 0 := by rw [HT0.len] at h1; exact h1
    obtain rfl : T = [] := List.length_eq_zero_iff.1 h1
    go_enter Tryd.func67, Tryd.ntmps67
    go_wp2_with fail
    refine (qCloneN _).mono ?_
    rintro e w1 ⟨rfl, rfl⟩
    go_wp2_with fail
    go_loopw [17] (fun q1 wr => q1 = .int .i64 0 ∧ wr = w1) (fun _ _ => 0)
    case atStart => exact ⟨rfl, rfl⟩
    case round =>
      obtain ⟨rfl, rfl⟩ := hrel
      go_wp2_with fail
      go_ret2
      exact ⟨none, 0, rfl, OwnB.nil _ _, Below.refl _ _⟩
  | some ad =>
    have HT := Lib.hid HT0
    have hlt : (len : Int) ≤ 1000000 := by omega
    have cB := Lib.hid (fun (c : Int) (c0 : 0 ≤ c) (c1 : c ≤ 4294967295) W (h : Below w.heap.size w W) => qBlock bk ok ck bn on cn K N HK HN c c0 c1 hck hcn W (Nat.lt_of_lt_of_le hbk h.size) (Nat.lt_of_lt_of_le hbn h.size) (hBK.below h hbk) (hBN.below h hbn))
    have cC := Lib.hid (qClone ad len cap T HT0.len (by omega) w (fun h => by
      obtain ⟨b, o, e, _, h2⟩ := hS.bl (by rw [HT0.len]; exact h)
      exact ⟨b, o, e, h2⟩))
    clear hbk hbn hBK hBN hS HT0
    go_enter Tryd.func67, Tryd.ntmps67
    go_wp2_with fail
    refine cC.out.mono ?_
    rintro e w1 ⟨g, cap2, rfl, hO, hb1⟩
    have O0 : Hid (OwnB w1 w.heap.size (.slice (some ⟨g, 0, none⟩) len cap2) (Obol.xorS K N T (Obol.xorM len 0))) := Lib.hid (by rw [show Obol.xorM len 0 = 0 by simp [Obol.xorM]]; exact hO)
    have B0 := Lib.hid hb1
    have hcap := own_cap hO
    have hcl : (len : Int) ≤ (cap2 : Int) := by rw [HT.out.len] at hcap; omega
    have hcm : (cap2 : Int) ≤ 9223372036854775807 := by omega
    clear hO hb1 cC hcap
    go_wp2_with fail
    go_loopw [17] (fun q1 wr => ∃ j : Nat, q1 = .int .i64 (j : Int) ∧ j ≤ len ∧ Hid (OwnB wr w.heap.size (.slice (some ⟨g, 0, none⟩) len cap2) (Obol.xorS K N T (Obol.xorM len j))) ∧ Hid (Below w.heap.size w wr)) (fun q1 _ => (len - intOf q1).toNat)
    case atStart => exact ⟨0, rfl, by omega, O0, B0⟩
    case round =>
      clear O0 B0
      rename World => wr
      obtain ⟨j, rfl, hj, O, B⟩ := hrel
      obtain ⟨i, hi⟩ : ∃ i : Int, (j : Int) = i := ⟨_, rfl⟩
      rw [hi]
      have i0 : 0 ≤ i := by omega
      by_cases hjl : j < len
      · have i1 : i < (len : Int) := by omega
        have hm : i.tmod 64 = i % 64 := Int.tmod_eq_emod_of_nonneg i0
        have hd : i.tdiv 64 = i / 64 := Int.tdiv_eq_ediv_of_nonneg i0
        by_cases hz : 0 < j % 64
        · have hz2 : 0 < i % 64 := by omega
          have hM : Obol.xorM len j = Obol.xorM len (j + 1) := by unfold Obol.xorM; omega
          rw [hM] at O
          replace hM := Lib.hid hM
          go_wp2_with fail
          go_roundw
          case rel => exact ⟨j + 1, by simp; omega, by omega, O, B⟩
          case measure => simp [intOf]; omega
        · have hz2 : ¬ 0 < i % 64 := by omega
          have w1 := wrap_small (x := 1 + i / 64) (by omega) (by omega)
          have w2 : IntKind.u32.wrap (1 + i / 64) = 1 + i / 64 := by rw [IntKind.wrap_u32]; omega
          have w3 := wrap_small (x := i + 64) (by omega) (by omega)
          have hM : Obol.xorM len j = j := by unfold Obol.xorM; omega
          rw [hM] at O
          have cC := cB.out (1 + i / 64) (by omega) (by omega) wr B.out
          rw [show (1 + i / 64).toNat = 1 + j / 64 by omega] at cC
          replace cC := Lib.hid cC
          replace hM := Lib.hid hM
          go_wp2_with fail
          refine cC.out.mono ?_
          rintro e w4 ⟨gb, cb, rfl, hOB, hb4⟩
          have hbl := (show OwnB w4 wr.heap.size (.slice (some ⟨gb, 0, none⟩) (Obol.blkL K N (1 + j / 64)).length cb) (Obol.blkL K N (1 + j / 64)) by rw [Obol.blk_len]; exact hOB).bl
          have hgl := own_lt hOB
          have hne : g ≠ gb := by have := own_lt O.out; have := own_ge hOB; omega
          have O1 := Lib.hid (O.out.below hb4)
          have B1 := Lib.hid (bThen B.out hb4 B.out.size)
          have L1 := Lib.hid hbl
          clear hOB hb4 cC O B hbl hgl
          go_wp2_with fail
          go_loopw [12] (fun q1 wr => ∃ k : Nat, q1 = .int .i64 (k : Int) ∧ j ≤ k ∧ k ≤ len ∧ k ≤ j + 64 ∧ Hid (OwnB wr w.heap.size (.slice (some ⟨g, 0, none⟩) len cap2) (Obol.xorS K N T k)) ∧ Hid (BL wr gb 0 (Obol.blkL K N (1 + j / 64))) ∧ Hid (Below w.heap.size w wr)) (fun q1 _ => (len - intOf q1).toNat)
          case atStart => exact ⟨j, by rw [hi], by omega, by omega, by omega, O1, L1, B1⟩
          case round =>
            clear O1 L1 B1
            rename World => wy
            obtain ⟨k, rfl, hk1, hk2, hk3, O, HL, B⟩ := hrel
            obtain ⟨x, hx⟩ : ∃ x : Int, (k : Int) = x := ⟨_, rfl⟩
            rw [hx]
            have x0 : 0 ≤ x := by omega
            have hxi : 0 ≤ x - i := by omega
            by_cases hkk : k < len ∧ k < j + 64
            · have x1 : x < (len : Int) := by omega
              have x2 : x < i + 64 := by omega
              have x3 : x - i < 64 := by omega
              have hxk : Hid (x.toNat = k) := Lib.hid (by omega)
              have hki : (x - i).toNat = k % 64 := by omega
              have hkd : k / 64 = j / 64 := by omega
              have wxi := wrap_small (x := x - i) (by omega) (by omega)
              have wx1 := wrap_small (x := x + 1) (by omega) (by omega)
              obtain ⟨p, hp⟩ : ∃ p : Int, ((T.getD k 0 : Nat) : Int) = p := ⟨_, rfl⟩
              have hpb := HT.out.lt k
              have p1 : p ≤ 255 := by omega
              have hXl : (Obol.xorS K N T k).length = len := by rw [Obol.xorS_len, HT.out.len]
              have ct : wy.cell? ⟨g, x.toNat, none⟩ = some (.int .u8 p) := by
                rw [own_cell O.out hXl x0 x1, hxk.out, Obol.xorS_get _ _ _ _ _ (by rw [HT.out.len]; omega), if_neg (by omega), hp]
              obtain ⟨q, cb, eq, q0, q1⟩ := HL.out.at (blk_b8 K N (1 + j / 64)) (i := x - i) hxi (by omega)
              rw [Nat.zero_add] at cb
              have hxb := xor_byte hp eq.symm p1 q1
              obtain ⟨z, hz3⟩ : ∃ z : Int, ((T.getD k 0 ^^^ (Obol.blkL K N (1 + j / 64)).getD (x - i).toNat 0 : Nat) : Int) = z := ⟨_, rfl⟩
              rw [hz3] at hxb
              have f := own_free O.out hXl x.toNat
              have ON : Hid (OwnB ((wy.setCell ⟨g, x.toNat, none⟩ (.int .u8 z)).drew) w.heap.size (.slice (some ⟨g, 0, none⟩) len cap2) (Obol.xorS K N T (k + 1))) := Lib.hid (by
                have h := own_set O.out hXl x.toNat _ hz3.symm
                rw [hki, ← hkd] at h
                show OwnB _ _ _ ((Obol.xorS K N T k).set k (T.getD k 0 ^^^ (Obol.blkL K N (1 + k / 64)).getD (k % 64) 0))
                rw [hxk.out] at h ⊢
                exact h)
              have LN : Hid (BL ((wy.setCell ⟨g, x.toNat, none⟩ (.int .u8 z)).drew) gb 0 (Obol.blkL K N (1 + j / 64))) := Lib.hid (fun q hq => (World.cell?_setCell_other wy ⟨g, x.toNat, none⟩ ⟨gb, 0 + q, none⟩ (.int .u8 z) (fun e => hne (by have e1 := congrArg Addr.block e; simp only at e1; omega))).trans (HL.out q hq))
              have BN := Lib.hid (bDrew (bSet (u := .int .u8 z) (o := x.toNat) B.out (own_ge O.out)))
              replace hp := Lib.hid hp
              replace eq := Lib.hid eq
              replace hz3 := Lib.hid hz3
              replace hki := Lib.hid hki
              replace hkd := Lib.hid hkd
              replace hXl := Lib.hid hXl
              clear hpb O B HL
              go_wp2_with fail
              go_region
              go_wp2_with fail
              go_roundw
              case rel => exact ⟨k + 1, by simp; omega, by omega, by omega, by omega, ON, LN, BN⟩
              case measure => simp [intOf]; omega
            · have hM2 : k = Obol.xorM len (j + 1) := by unfold Obol.xorM; omega
              have OF : Hid (OwnB wy w.heap.size (.slice (some ⟨g, 0, none⟩) len cap2) (Obol.xorS K N T (Obol.xorM len (j + 1)))) := by rw [← hM2]; exact O
              replace hM2 := Lib.hid hM2
              clear O
              by_cases hkl : k < len
              · have x1 : x < (len : Int) := by omega
                have x2 : ¬ x < i + 64 := by omega
                go_wp2_with fail
                go_roundw
                case rel => exact ⟨j + 1, by simp; omega, by omega, OF, B⟩
                case measure => simp [intOf]; omega
              · have x1 : ¬ x < (len : Int) := by omega
                go_wp2_with fail
                go_roundw
                case rel => exact ⟨j + 1, by simp; omega, by omega, OF, B⟩
                case measure => simp [intOf]; omega
      · obtain rfl : j = len := by omega
        have i1 : ¬ i < (j : Int) := by omega
        have hM : Obol.xorM j j = j := by unfold Obol.xorM; omega
        have OF : Hid (OwnB wr w.heap.size (.slice (some ⟨g, 0, none⟩) j cap2) (Obol.strm K N T)) := Lib.hid (by have h := O.out; rw [hM] at h; unfold Obol.strm; rw [HT.out.len]; exact h)
        clear O
        replace hM := Lib.hid hM
        go_wp2_with fail
        go_ret2
        exact ⟨_, _, rfl, OF.out, B.out⟩

end Go.Proofs.YtallfmiikjmgaaaDoor
