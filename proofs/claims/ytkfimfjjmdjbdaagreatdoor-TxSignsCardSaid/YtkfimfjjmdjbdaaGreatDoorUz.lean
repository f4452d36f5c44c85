import Derived.Test.YtkfimfjjmdjbdaaGreatDoorUs
import Derived.Test.YtkfimfjjmdjbdaaGreatDoorUd
import Derived.Test.YtkfimfjjmdjbdaaGreatDoorUc
import Derived.Deep.RegionWith
import Derived.Deep.CutBlock
import Derived.Deep.DeepCutAuto
import Derived.Test.YtkfimfjjmdjbdaaGreatDoorUf
import Derived.Lib.ConvBytes
set_option linter.unusedVariables false
set_option linter.unusedSimpArgs false
set_option linter.unusedSectionVars false
/- Walks: the reference of layer 5: the words of the beginning, words of bytes, the number. -/
namespace Obol
def wordsOf (L : List Nat) (q : Nat) : List Nat := (List.range q).map fun i => wordAt L (4 * i)
theorem wordsOf_succ (L : List Nat) (q : Nat) : wordsOf L (q + 1) = wordsOf L q ++ [wordAt L (4 * q)] := by
 unfold wordsOf
 rw [List.range_succ, List.map_append]
 rfl
theorem wordsOf_len (L : List Nat) (q : Nat) : (wordsOf L q).length = q := by simp [wordsOf]
end Obol
namespace Go.Proofs.YtkfimfjjmdjbdaaGreatDoor
open Go.RowKit

theorem r5First (w : World) :
  Calls Tryz.prog 58 #[] w fun e w' => e = .returned (.agg (u32s Obol.firstL)) ∧ Below w.heap.size w w' := by
 go_enter Tryz.func58, Tryz.ntmps58
 go_wp2_with fail
 refine bodyPost_ret (v := .agg (u32s Obol.firstL)) (results_row rfl _ rfl (Row.new w (u32s Obol.firstL) 96) Tryz.underlying96 rfl (by kernel_rfl)) rfl ⟨rfl, ?_⟩
 exact bAlloc (Below.refl _ _) _

/-- The number of eight bytes, the lowest first. -/
def NumR5 (L : List Nat) (N i : Int) : Prop := 0 ≤ N ∧ -1 ≤ i ∧ i ≤ 7 ∧ N < 256 ^ (7 - i).toNat ∧ N = (((List.range (7 - i).toNat).foldl (fun n j => 256 * n + L.getD (7 - j) 0) 0 : Nat) : Int)
theorem NumR5.bound {L : List Nat} {N i : Int} (h : NumR5 L N i) (hi : 0 ≤ i) : 0 ≤ N ∧ N < 72057594037927936 := by
 refine ⟨h.1, Int.lt_of_lt_of_le h.2.2.2.1 ?_⟩
 have : (256 : Nat) ^ (7 - i).toNat ≤ 256 ^ 7 := Nat.pow_le_pow_right (by decide) (by omega)
 have e : ((256 ^ (7 - i).toNat : Nat) : Int) = 256 ^ (7 - i).toNat := by rw [Int.natCast_pow]; rfl
 omega
theorem NumR5.step {L : List Nat} {N i v : Int} (h : NumR5 L N i) (hi : 0 ≤ i) (hv : v = ((L.getD i.toNat 0 : Nat) : Int)) (v1 : v ≤ 255) : NumR5 L (256 * N + v) (i - 1) := by
 obtain ⟨h0, h1, h2, h3, h4⟩ := h
 have e : (7 - (i - 1)).toNat = (7 - i).toNat + 1 := by omega
 refine ⟨by omega, by omega, by omega, ?_, ?_⟩
 ·rw [e, Int.pow_succ]; omega
 ·rw [e, List.range_succ, List.foldl_append, h4, hv]
  simp only [List.foldl]
  rw [show 7 - (7 - i).toNat = i.toNat by omega]
  omega
theorem NumR5.done {L : List Nat} {N : Int} (h : NumR5 L N (-1)) : N = ((Obol.numL L : Nat) : Int) := by
 have := h.2.2.2.2
 rw [this]
 simp [List.range, List.range.loop, List.foldl, Obol.numL, Obol.wordAt]
 omega
theorem r5Number (b o len cap : Nat) (L : List Nat) (n : Nat) (H0 : B8 n L) (hn : 8 ≤ n) (hl : len = n) (hl2 : len ≤ 9223372036854775807) (w : World) (hc0 : BL w b o L) :
  Calls Tryz.prog 28 #[.slice (some ⟨b, o, none⟩) len cap] w fun e w' => e = .returned (.int .u64 ((Obol.numL L : Nat) : Int)) ∧ w' = w := by
 have H := Lib.hid H0
 have C := Lib.hid hc0
 have hle : (8 : Int) ≤ (len : Int) := by omega
 clear hc0 H0
 go_enter Tryz.func28, Tryz.ntmps28
 go_wp2
 go_loopw [3, 4] (fun q1 q2 wr => ∃ N i : Int, q1 = .int .u64 N ∧ q2 = .int .i64 i ∧ Hid (NumR5 L N i) ∧ wr = w) (fun _ q2 _ => (1 + intOf q2).toNat)
 case atStart => exact ⟨0, 7, rfl, rfl, Lib.hid ⟨by omega, by omega, by omega, by decide, rfl⟩, rfl⟩
 case round =>
  obtain ⟨N, i, rfl, rfl, HI, rfl⟩ := hrel
  have i0 := HI.out.2.1
  have i1 := HI.out.2.2.1
  by_cases hi : 0 ≤ i
  ·obtain ⟨n0, n1⟩ := HI.out.bound hi
   obtain ⟨v, hv, he, v0, v1⟩ := C.out.at H.out hi (by omega)
   have HN := Lib.hid (HI.out.step hi he v1)
   have hil : i < (len : Int) := by omega
   clear he
   go_wp2
   exact ⟨⟨_, _, rfl, rfl, HN, trivial⟩, by simp [intOf]; omega⟩
  ·obtain rfl : i = -1 := by omega
   have hN := Lib.hid HI.out.done
   clear HI
   go_wp2
   go_ret
   exact ⟨by rw [← hN.out]; rfl, rfl⟩


/-- Words as cells; a slice of the call's own. -/
abbrev U32 (L : List Nat) : List Value := L.map fun (n : Nat) => Value.int .u32 (n : Int)
def OwnW (w : World) (base : Nat) (v : Value) (L : List Nat) : Prop := w.ownsRow base 88 1 v L.length (U32 L)
theorem OwnW.nil (w : World) (base : Nat) : OwnW w base (.slice none 0 0) [] := World.ownsRow_nil _ _ _ _
theorem OwnW.app {w : World} {base : Nat} {v : Value} {L M : List Nat} {news : List Value} (h : w.ownsRow base 88 1 v (L.length + M.length) (U32 L ++ news)) (e : news = U32 M) : OwnW w base v (L ++ M) := by
 subst e; unfold OwnW; rw [List.length_append, U32, List.map_append]; exact h
theorem OwnB.app {w : World} {base : Nat} {v : Value} {L M : List Nat} {news : List Value} (h : w.ownsRow base 5 1 v (L.length + M.length) (U8 L ++ news)) (e : news = U8 M) : OwnB w base v (L ++ M) := by
 subst e; unfold OwnB; rw [List.length_append, U8, List.map_append]; exact h
/-- The cells from o on are these words. -/
def WL (w : World) (b o : Nat) (L : List Nat) : Prop := ∀ i, i < L.length → w.cell? ⟨b, o + i, none⟩ = some (.int .u32 ((L.getD i 0 : Nat) : Int))
theorem WL.below {B : Nat} {w w' : World} {b o : Nat} {L : List Nat} (h : WL w b o L) (hb : Below B w w') (hB : b < B) : WL w' b o L := fun i hi => (hb.cell (p := ⟨b, o + i, none⟩) hB).trans (h i hi)
theorem WL.lt {w : World} {b o : Nat} {L : List Nat} (h : WL w b o L) (h0 : 0 < L.length) : b < w.heap.size := World.block_lt_of_cell? w ⟨b, o + 0, none⟩ (h 0 h0)
theorem OwnW.size {w : World} {base : Nat} {v : Value} {L : List Nat} (h : OwnW w base v L) (h0 : 0 < L.length) : ∃ g cap, v = .slice (some ⟨g, 0, none⟩) L.length cap ∧ base ≤ g ∧ g < w.heap.size ∧ L.length ≤ cap ∧ WL w g 0 L := by
 rcases h.2 with ⟨rfl, h⟩ | ⟨g, cap, cur, h1, h2, h3, h4, h5, h6, h7⟩
 ·omega
 ·subst h1
  refine ⟨g, cap, rfl, h2, (Array.getElem?_eq_some_iff.1 h3).1, h4, fun i hi => ?_⟩
  rw [Nat.zero_add, World.ownsRow.cellAt h i (by omega)]
  simp only [List.getElem?_map, List.getElem?_eq_getElem hi, List.getD_eq_getElem?_getD]
  rfl
theorem OwnW.keep {w w' : World} {base B : Nat} {v : Value} {L : List Nat} (h : OwnW w base v L) (hb : Below B w w') (hB : w.heap.size ≤ B) : OwnW w' base v L := by
 refine ⟨h.1, ?_⟩
 rcases h.2 with h | ⟨g, cap, cur, h1, h2, h3, h4⟩
 ·exact .inl h
 ·exact .inr ⟨g, cap, cur, h1, h2, (hb.block g (Nat.lt_of_lt_of_le (Array.getElem?_eq_some_iff.1 h3).1 hB)).trans h3, h4⟩
theorem info32w : (Tryz.prog.info? 88).map (fun i => (i.zero, i.size, i.bytes)) = some (some (.int .u32 0), 1, 4) := by kernel_rfl
theorem info_parts4 {i : Option TypeInfo} {z : Value} {s b : Nat} (h : i.map (fun i => (i.zero, i.size, i.bytes)) = some (some z, s, b)) : ∃ t, i = some t ∧ t.zero = some z ∧ t.size = s ∧ t.bytes = b := by
 cases i with
 | none => simp at h
 | some t => simp at h; exact ⟨t, rfl, h.1, h.2.1, h.2.2⟩
theorem wcell {w w' : World} {b o B : Nat} {v : Value} (hc : w.cell? ⟨b, o, none⟩ = some v) (hb : Below B w w') (hB : b < B) : w'.cell? ⟨b, o, none⟩ = some v := (hb.cell (p := ⟨b, o, none⟩) hB).trans hc

set_option maxRecDepth 4000 in
set_option maxHeartbeats 1000000 in
theorem r5Words (b o len cap : Nat) (L : List Nat) (q : Nat) (hq1 : len ≤ 4 * q) (hq2 : 4 * q ≤ len) (H0 : B8 len L) (hl2 : len ≤ 70368744177664) (w : World) (hb0 : b < w.heap.size) (hc0 : BL w b o L) :
  Calls Tryz.prog 57 #[.slice (some ⟨b, o, none⟩) len cap] w fun e w' => ∃ v, e = .returned v ∧ OwnW w' w.heap.size v (Obol.wordsOf L q) ∧ Below w.heap.size w w' := by
 have H := Lib.hid H0
 have C := Lib.hid hc0
 have hl3 : (len : Int) ≤ 70368744177664 := by omega
 clear hc0 H0
 obtain ⟨ti, hti, htz, hts, htb⟩ := info_parts4 info32w
 go_enter Tryz.func57, Tryz.ntmps57
 go_wp2
 go_loopw [3, 4] (fun q1 q2 wr => ∃ j : Nat, j ≤ q ∧ q2 = .int .i64 ((4 * j : Nat) : Int) ∧ OwnW wr w.heap.size q1 (Obol.wordsOf L j) ∧ Below w.heap.size w wr) (fun _ q2 _ => (4 * q - intOf q2).toNat)
 case atStart => exact ⟨0, by omega, rfl, OwnW.nil _ _, Below.refl _ _⟩
 case round =>
  obtain ⟨j, hj9, rfl, hO0, hW0⟩ := hrel
  have hO := Lib.hid hO0
  have hW := Lib.hid hW0
  have hsz := hW0.size
  clear hO0 hW0
  obtain ⟨i, hi⟩ : ∃ i : Int, ((4 * j : Nat) : Int) = i := ⟨_, rfl⟩
  rw [hi]
  have i0 : 0 ≤ i := by omega
  have w3 := wrap_small (x := i + 3) (by omega) (by omega)
  by_cases hj : j < q
  ·have i3 : i + 3 < (len : Int) := by omega
   have w1 := wrap_small (x := i + 1) (by omega) (by omega)
   have w2 := wrap_small (x := i + 2) (by omega) (by omega)
   have w4 := wrap_small (x := i + 4) (by omega) (by omega)
   obtain ⟨v0, D0, e0, z0, u0⟩ := C.out.at H.out (i := i) (by omega) (by omega)
   have d0 := wcell D0 hW.out hb0
   replace D0 := Lib.hid D0
   obtain ⟨v1, D1, e1, z1, u1⟩ := C.out.at H.out (i := i + 1) (by omega) (by omega)
   have d1 := wcell D1 hW.out hb0
   replace D1 := Lib.hid D1
   obtain ⟨v2, D2, e2, z2, u2⟩ := C.out.at H.out (i := i + 2) (by omega) (by omega)
   have d2 := wcell D2 hW.out hb0
   replace D2 := Lib.hid D2
   obtain ⟨v3, D3, e3, z3, u3⟩ := C.out.at H.out (i := i + 3) (by omega) (by omega)
   have d3 := wcell D3 hW.out hb0
   replace D3 := Lib.hid D3
   have eV : Hid (v0 + 256 * v1 + 65536 * v2 + 16777216 * v3 = ((Obol.wordAt L (4 * j) : Nat) : Int)) := Lib.hid (by
    unfold Obol.wordAt
    rw [e0, e1, e2, e3, show i.toNat = 4 * j by omega, show (i + 1).toNat = 4 * j + 1 by omega, show (i + 2).toNat = 4 * j + 2 by omega, show (i + 3).toNat = 4 * j + 3 by omega]
    omega)
   have a1 : (0 : Int) ≤ i + 1 := by omega
   have a2 : (0 : Int) ≤ i + 2 := by omega
   have a3 : (0 : Int) ≤ i + 3 := by omega
   have l0 : i < (len : Int) := by omega
   have l1 : i + 1 < (len : Int) := by omega
   have l2 : i + 2 < (len : Int) := by omega
   have x1 : IntKind.u32.wrap (256 * v1) = 256 * v1 := by rw [IntKind.wrap_u32]; omega
   have x2 : IntKind.u32.wrap (65536 * v2) = 65536 * v2 := by rw [IntKind.wrap_u32]; omega
   have x3 : IntKind.u32.wrap (16777216 * v3) = 16777216 * v3 := by rw [IntKind.wrap_u32]; omega
   have y1 : IntKind.u32.wrap (v0 + 256 * v1) = v0 + 256 * v1 := by rw [IntKind.wrap_u32]; omega
   have y2 : IntKind.u32.wrap (v0 + 256 * v1 + 65536 * v2) = v0 + 256 * v1 + 65536 * v2 := by rw [IntKind.wrap_u32]; omega
   have y3 : IntKind.u32.wrap (v0 + 256 * v1 + 65536 * v2 + 16777216 * v3) = v0 + 256 * v1 + 65536 * v2 + 16777216 * v3 := by rw [IntKind.wrap_u32]; omega
   have k0 : IntKind.u32.wrap v0 = v0 := by rw [IntKind.wrap_u32]; omega
   have k1 : IntKind.u32.wrap v1 = v1 := by rw [IntKind.wrap_u32]; omega
   have k2 : IntKind.u32.wrap v2 = v2 := by rw [IntKind.wrap_u32]; omega
   have k3 : IntKind.u32.wrap v3 = v3 := by rw [IntKind.wrap_u32]; omega
   clear e0 e1 e2 e3
   go_wp2_with fail
   refine wp_region_noPanic ?_
   refine wp_region_held_drew (S := fun wq => wq.cell? ⟨b, o + i.toNat, none⟩ = some (.int .u8 v0) ∧ wq.cell? ⟨b, o + (i + 1).toNat, none⟩ = some (.int .u8 v1) ∧ wq.cell? ⟨b, o + (i + 2).toNat, none⟩ = some (.int .u8 v2) ∧ wq.cell? ⟨b, o + (i + 3).toNat, none⟩ = some (.int .u8 v3)) (by kernel_rfl) ?_ (fun hHeld => ?_)
   ·exact ⟨d0, d1, d2, d3⟩
   refine tk 0 hHeld ?_; refine tk 1 hHeld ?_; refine tk 2 hHeld ?_; refine tk 3 hHeld ?_; refine tk 4 hHeld ?_; refine tk 5 hHeld ?_; refine tk 6 hHeld ?_; refine tk 7 hHeld ?_; refine tk 8 hHeld ?_; refine tk 9 hHeld ?_; refine tk 10 hHeld ?_; refine tk 11 hHeld ?_; refine tk 12 hHeld ?_; refine tk 13 hHeld ?_; refine tk 14 hHeld ?_; refine tk 15 hHeld ?_; refine tk 16 hHeld ?_; refine tk 17 hHeld ?_; refine tk 18 hHeld ?_; refine tk 19 hHeld ?_; refine tk 20 hHeld ?_; refine tk 21 hHeld ?_; refine tk 22 hHeld ?_; refine tk 23 hHeld ?_; refine tk 24 hHeld ?_; refine tk 25 hHeld ?_; refine tk 26 hHeld ?_; refine tk 27 hHeld ?_; refine tk 28 hHeld ?_; refine tk 29 hHeld ?_
   refine stepH 30 (by kernel_rfl) rfl (by rfl) (fun K hK => ?_)
   go_simp
   refine hK.out _ _ ?_ (fun hHeld => ?_)
   ·exact ⟨wcell d0 (bAlloc (bDrew (Below.refl _ wr)) _) (Nat.lt_of_lt_of_le hb0 hsz), wcell d1 (bAlloc (bDrew (Below.refl _ wr)) _) (Nat.lt_of_lt_of_le hb0 hsz), wcell d2 (bAlloc (bDrew (Below.refl _ wr)) _) (Nat.lt_of_lt_of_le hb0 hsz), wcell d3 (bAlloc (bDrew (Below.refl _ wr)) _) (Nat.lt_of_lt_of_le hb0 hsz)⟩
   clear hK K
   try simp only [Act.put, List.setIfInBounds_toArray, List.set_cons_zero, List.set_cons_succ]
   refine stepH 31 (by kernel_rfl) rfl (by rfl) (fun K hK => ?_)
   (refine wp_append_own _ _ _ 94 rfl w.heap.size 88 ti (.int .u32 0) 1 4 Tryz.underlying94 hti htz hts htb rfl (by decide) _ _ _ rfl (hO.out.keep (bAlloc (bDrew (Below.refl _ wr)) _) (Nat.le_refl _)) ⟨wr.heap.size, 0, none⟩ 1 1 [.int .u32 (v0 + 256 * v1 + 65536 * v2 + 16777216 * v3)] ?c0 rfl ?c1 ?c2 ?c3 ?c4 ?c5 ?_)
   case c0 => rfl
   case c1 => intro q u hq; match q, hq with | 0, hq => simp at hq; subst hq; simp [Addr.add]
   case c2 => intro u hu; simp at hu; subst hu; rfl
   case c3 => rw [Obol.wordsOf_len]; unfold maxLen; omega
   case c4 => rw [Obol.wordsOf_len]; omega
   case c5 => simp; omega
   intro v' w1 hown' hgrow _
   have hrow := hO.out.2
   have HO : Hid (OwnW w1 w.heap.size v' (Obol.wordsOf L (j + 1))) := Lib.hid (by rw [Obol.wordsOf_succ]; exact OwnW.app hown' (by rw [eV.out]; rfl))
   have HW : Hid (Below w.heap.size w w1) := Lib.hid ((bAlloc (bDrew hW.out) _).grown hgrow (by simp; omega) (fun q hq => (hO.out.lt q hq).1))
   refine hK.out _ _ ?_ (fun hHeld => ?_)
   ·exact ⟨wcell D0.out HW.out hb0, wcell D1.out HW.out hb0, wcell D2.out HW.out hb0, wcell D3.out HW.out hb0⟩
   clear hK K
   try simp only [Act.put, List.setIfInBounds_toArray, List.set_cons_zero, List.set_cons_succ]
   refine tk 32 hHeld ?_
   refine wpAnyH_done (by kernel_rfl) (NoPanic.normal ?_) _
   go_wp2
   go_roundw
   case rel => exact ⟨j + 1, by omega, by congr 1; omega, HO.out, HW.out⟩
   case measure => simp [intOf]; omega
  ·obtain rfl : j = q := by omega
   have i3 : ¬ i + 3 < (len : Int) := by omega
   go_wp2_with fail
   go_ret
   exact ⟨_, rfl, hO.out, hW.out⟩

end Go.Proofs.YtkfimfjjmdjbdaaGreatDoor
/- Walks: the reference of layer 5: the bytes of words; the rows. -/
namespace Go.Proofs.YtkfimfjjmdjbdaaGreatDoor
open Go.RowKit

/-- The cells of a row. -/
def IL (w : World) (b : Nat) (i : Nat) : Prop := ∀ k, k < 16 → w.cell? ⟨b, k, none⟩ = some (.int .i64 ((Obol.rowAt i k : Nat) : Int))
theorem IL.below {B : Nat} {w w' : World} {b i : Nat} (h : IL w b i) (hb : Below B w w') (hB : b < B) : IL w' b i := fun k hk => (hb.cell (p := ⟨b, k, none⟩) hB).trans (h k hk)
theorem IL.of {w : World} {b i : Nat} {cs : Array Value} {t : TypeId} (h : Row w b cs t) (hc : cs = ((Obol.rowsL.getD i []).map fun (n : Nat) => Value.int .i64 (n : Int)).toArray) (hl : (Obol.rowsL.getD i []).length = 16) : IL w b i := fun k hk => by
 refine h.cell k ?_
 subst hc
 unfold Obol.rowAt
 rw [List.getElem?_toArray, List.getElem?_map, List.getElem?_eq_getElem (by omega), List.getD_eq_getElem?_getD (l := Obol.rowsL.getD i []), List.getElem?_eq_getElem (by omega)]
 rfl

set_option maxHeartbeats 4000000 in
theorem r5Row (i : Int) (i0 : 0 ≤ i) (i1 : i < 10) (w : World) :
  Calls Tryz.prog 85 #[.int .i64 i] w fun e w' => e = .returned (.slice (some ⟨w.heap.size, 0, none⟩) 16 16) ∧ IL w' w.heap.size i.toNat ∧ w.heap.size < w'.heap.size ∧ Below w.heap.size w w' := by
 have hi : i = 0 ∨ i = 1 ∨ i = 2 ∨ i = 3 ∨ i = 4 ∨ i = 5 ∨ i = 6 ∨ i = 7 ∨ i = 8 ∨ i = 9 := by omega
 rcases hi with rfl | rfl | rfl | rfl | rfl | rfl | rfl | rfl | rfl | rfl
 all_goals go_enter Tryz.func85, Tryz.ntmps85
 all_goals go_wp2
 all_goals go_ret
 all_goals refine ⟨rfl, IL.of (Row.new w _ _) rfl rfl, by simp, bAlloc (Below.refl _ _) _⟩

theorem wordsB_app (l m : List Nat) : Obol.wordsB (l ++ m) = Obol.wordsB l ++ Obol.wordsB m := by unfold Obol.wordsB; rw [List.flatMap_append]

set_option maxRecDepth 4000 in
set_option maxHeartbeats 1000000 in
theorem r5Bytes (b len cap : Nat) (L : List Nat) (H0 : Obol.W32 len L) (hl2 : len ≤ 4096) (w : World) (hb0 : b < w.heap.size) (hc0 : WL w b 0 L) :
  Calls Tryz.prog 60 #[.slice (some ⟨b, 0, none⟩) len cap] w fun e w' => ∃ v, e = .returned v ∧ OwnB w' w.heap.size v (Obol.wordsB L) ∧ Below w.heap.size w w' := by
 have H := Lib.hid H0
 have C := Lib.hid hc0
 have hl3 : (len : Int) ≤ 4096 := by omega
 have hlen := Lib.hid H0.len
 clear hc0 H0
 obtain ⟨ti, hti, htz, hts, htb⟩ := info_parts info8
 go_enter Tryz.func60, Tryz.ntmps60
 go_wp2
 go_loopw [3, 4] (fun q1 q2 wr => ∃ j : Nat, j ≤ len ∧ q2 = .int .i64 (j : Int) ∧ OwnB wr w.heap.size q1 (Obol.wordsB (L.take j)) ∧ Below w.heap.size w wr) (fun _ q2 _ => (len - intOf q2).toNat)
 case atStart => exact ⟨0, by omega, rfl, OwnB.nil _ _, Below.refl _ _⟩
 case round =>
  obtain ⟨j, hj9, rfl, hO0, hW0⟩ := hrel
  have hO := Lib.hid hO0
  have hW := Lib.hid hW0
  have hsz := hW0.size
  clear hO0 hW0
  obtain ⟨i, hi⟩ : ∃ i : Int, (j : Int) = i := ⟨_, rfl⟩
  rw [hi]
  have i0 : 0 ≤ i := by omega
  by_cases hj : j < len
  ·have i3 : i < (len : Int) := by omega
   obtain ⟨x, ex, x0, x1⟩ := word_at H.out (i := i) (by omega) (by omega)
   have D : w.cell? ⟨b, i.toNat, none⟩ = some (.int .u32 x) := by
    have := C.out i.toNat (by rw [hlen.out]; omega)
    rwa [Nat.zero_add, ex] at this
   have d := wcell D hW.out hb0
   replace D := Lib.hid D
   have ex' : Hid (((L.getD j 0 : Nat) : Int) = x) := Lib.hid (by rw [← ex, show i.toNat = j by omega])
   clear ex
   have hlj : (Obol.wordsB (L.take j)).length = 4 * j := by rw [wordsB_len, List.length_take, hlen.out]; omega
   replace hlj := Lib.hid hlj
   go_wp2_with fail
   refine wp_region_noPanic ?_
   refine wp_region_held_drew (S := fun wq => wq.cell? ⟨b, i.toNat, none⟩ = some (.int .u32 x)) (by kernel_rfl) ?_ (fun hHeld => ?_)
   ·exact d
   refine tk 0 hHeld ?_; refine tk 1 hHeld ?_; refine tk 2 hHeld ?_; refine tk 3 hHeld ?_; refine tk 4 hHeld ?_; refine tk 5 hHeld ?_; refine tk 6 hHeld ?_; refine tk 7 hHeld ?_; refine tk 8 hHeld ?_; refine tk 9 hHeld ?_; refine tk 10 hHeld ?_; refine tk 11 hHeld ?_; refine tk 12 hHeld ?_; refine tk 13 hHeld ?_; refine tk 14 hHeld ?_; refine tk 15 hHeld ?_; refine tk 16 hHeld ?_; refine tk 17 hHeld ?_; refine tk 18 hHeld ?_; refine tk 19 hHeld ?_; refine tk 20 hHeld ?_; refine tk 21 hHeld ?_; refine tk 22 hHeld ?_; refine tk 23 hHeld ?_
   refine stepH 24 (by kernel_rfl) rfl (by rfl) (fun K hK => ?_)
   go_simp
   refine hK.out _ _ ?_ (fun hHeld => ?_)
   ·exact wcell d (bAlloc (bDrew (Below.refl _ wr)) _) (Nat.lt_of_lt_of_le hb0 hsz)
   clear hK K
   try simp only [Act.put, List.setIfInBounds_toArray, List.set_cons_zero, List.set_cons_succ]
   refine stepH 25 (by kernel_rfl) rfl (by rfl) (fun K hK => ?_)
   (refine wp_append_own _ _ _ 26 rfl w.heap.size 5 ti (.int .u8 0) 1 1 Tryz.underlying26 hti htz hts htb rfl (by decide) _ _ _ rfl (hO.out.below (bAlloc (bDrew (Below.refl _ wr)) _)) ⟨wr.heap.size, 0, none⟩ 4 4 [.int .u8 (x % 256), .int .u8 (x / 256 % 256), .int .u8 (x / 65536 % 256), .int .u8 (x / 16777216)] ?c0 rfl ?c1 ?c2 ?c3 ?c4 ?c5 ?_)
   case c0 => rfl
   case c1 =>
    intro q u hq
    match q, hq with
    | 0, hq => simp at hq; subst hq; simp [Addr.add, IntKind.wrap_u8]
    | 1, hq => simp at hq; subst hq; simp [Addr.add, IntKind.wrap_u8]
    | 2, hq => simp at hq; subst hq; simp [Addr.add, IntKind.wrap_u8]
    | 3, hq => simp at hq; subst hq; simp [Addr.add, IntKind.wrap_u8]; omega
   case c2 =>
    intro u hu
    simp at hu
    rcases hu with rfl | rfl | rfl | rfl <;> rfl
   case c3 => rw [hlj.out]; unfold maxLen; omega
   case c4 => rw [hlj.out]; omega
   case c5 => simp; omega
   intro v' w1 hown' hgrow _
   have HO : Hid (OwnB w1 w.heap.size v' (Obol.wordsB (L.take (j + 1)))) := Lib.hid (by
    rw [wordsB_take (l := L) (i := j) (by rw [hlen.out]; exact hj)]
    refine OwnB.app (M := Obol.bytes4 (L.getD j 0)) hown' ?_
    have ex := ex'.out
    generalize L.getD j 0 = X at ex
    subst ex
    simp [U8, Obol.bytes4]
    omega)
   have HW : Hid (Below w.heap.size w w1) := Lib.hid ((bAlloc (bDrew hW.out) _).grown hgrow (by simp; omega) (fun q hq => (hO.out.lt q hq).1))
   refine hK.out _ _ ?_ (fun hHeld => ?_)
   ·exact wcell D.out HW.out hb0
   clear hK K
   try simp only [Act.put, List.setIfInBounds_toArray, List.set_cons_zero, List.set_cons_succ]
   refine tk 26 hHeld ?_
   refine wpAnyH_done (by kernel_rfl) (NoPanic.normal ?_) _
   go_wp2
   go_roundw
   case rel => exact ⟨j + 1, by omega, by congr 1; omega, HO.out, HW.out⟩
   case measure => simp [intOf]; omega
  ·obtain rfl : j = len := by omega
   have i3 : ¬ i < (j : Int) := by omega
   rw [List.take_of_length_le (by rw [hlen.out]; exact Nat.le_refl _)] at hO
   go_wp2_with fail
   go_ret
   exact ⟨_, rfl, hO.out, hW.out⟩

end Go.Proofs.YtkfimfjjmdjbdaaGreatDoor
/- Walks: the reference of layer 5: words. -/
namespace Go.Proofs.YtkfimfjjmdjbdaaGreatDoor
open Go.RowKit

theorem or_roll {x : Int} (n : Nat) (h0 : 0 ≤ x) (h1 : x ≤ 4294967295) : bits .or .u32 (x / 2 ^ n) (x * 2 ^ (32 - n) % 4294967296) = ((Obol.rotW n x.toNat : Nat) : Int) := by
  obtain ⟨X, rfl⟩ := Int.eq_ofNat_of_zero_le h0
  have e1 : (X : Int) * 2 ^ (32 - n) % 4294967296 = ((X * 2 ^ (32 - n) % 4294967296 : Nat) : Int) := by simp
  have e2 : (X : Int) / 2 ^ n = ((X / 2 ^ n : Nat) : Int) := by simp
  rw [e1, e2, u32_or_nat _ _ (Nat.lt_of_le_of_lt (Nat.div_le_self _ _) (by omega)) (Nat.mod_lt _ (by decide)), Nat.or_comm]
  rfl
theorem roll16 (x : Int) (h0 : 0 ≤ x) (h1 : x ≤ 4294967295) (w : World) :
    Calls Tryz.prog 108 #[.int .u32 x, .int .i64 16] w fun e w' => e = .returned (.int .u32 ((Obol.rotW 16 x.toNat : Nat) : Int)) ∧ ∃ n, w' = w.drewN n := by
  have hr := Lib.hid (or_roll 16 h0 h1)
  go_enter Tryz.func108, Tryz.ntmps108
  go_wp2_with fail
  go_quiet (fail)
  go_wp2
  go_ret
  refine ⟨?_, _, rfl⟩
  rw [← hr.out]
  rfl
theorem roll12 (x : Int) (h0 : 0 ≤ x) (h1 : x ≤ 4294967295) (w : World) :
    Calls Tryz.prog 108 #[.int .u32 x, .int .i64 12] w fun e w' => e = .returned (.int .u32 ((Obol.rotW 12 x.toNat : Nat) : Int)) ∧ ∃ n, w' = w.drewN n := by
  have hr := Lib.hid (or_roll 12 h0 h1)
  go_enter Tryz.func108, Tryz.ntmps108
  go_wp2_with fail
  go_quiet (fail)
  go_wp2
  go_ret
  refine ⟨?_, _, rfl⟩
  rw [← hr.out]
  rfl
theorem roll8 (x : Int) (h0 : 0 ≤ x) (h1 : x ≤ 4294967295) (w : World) :
    Calls Tryz.prog 108 #[.int .u32 x, .int .i64 8] w fun e w' => e = .returned (.int .u32 ((Obol.rotW 8 x.toNat : Nat) : Int)) ∧ ∃ n, w' = w.drewN n := by
  have hr := Lib.hid (or_roll 8 h0 h1)
  go_enter Tryz.func108, Tryz.ntmps108
  go_wp2_with fail
  go_quiet (fail)
  go_wp2
  go_ret
  refine ⟨?_, _, rfl⟩
  rw [← hr.out]
  rfl
theorem roll7 (x : Int) (h0 : 0 ≤ x) (h1 : x ≤ 4294967295) (w : World) :
    Calls Tryz.prog 108 #[.int .u32 x, .int .i64 7] w fun e w' => e = .returned (.int .u32 ((Obol.rotW 7 x.toNat : Nat) : Int)) ∧ ∃ n, w' = w.drewN n := by
  have hr := Lib.hid (or_roll 7 h0 h1)
  go_enter Tryz.func108, Tryz.ntmps108
  go_wp2_with fail
  go_quiet (fail)
  go_wp2
  go_ret
  refine ⟨?_, _, rfl⟩
  rw [← hr.out]
  rfl

end Go.Proofs.YtkfimfjjmdjbdaaGreatDoor
/- Walks: the reference of layer 5: the mixing of four words. -/
namespace Go.Proofs.YtkfimfjjmdjbdaaGreatDoor
open Go.RowKit

abbrev zeros16 : Array Value := #[.int .u32 0, .int .u32 0, .int .u32 0, .int .u32 0, .int .u32 0, .int .u32 0, .int .u32 0, .int .u32 0, .int .u32 0, .int .u32 0, .int .u32 0, .int .u32 0, .int .u32 0, .int .u32 0, .int .u32 0, .int .u32 0]
theorem add3_is' {p q x : Int} {P Q : Nat} (hp : (P : Int) = p) (hq : (Q : Int) = q) (hx : 0 ≤ x) : ((p + q) % 4294967296 + x) % 4294967296 = ((Obol.add3 P Q x.toNat : Nat) : Int) := by
 unfold Obol.add3; omega

set_option maxRecDepth 8000 in
set_option maxHeartbeats 2000000 in
theorem rMix (a b c d : Int) (ha0 : 0 ≤ a) (hb0 : 0 ≤ b) (hc0 : 0 ≤ c) (hd0 : 0 ≤ d) (ha1 : a < 16) (hb1 : b < 16) (hc1 : c < 16) (hd1 : d < 16)
  (x y : Int) (hx : 0 ≤ x) (hy : 0 ≤ y) (L0 : List Nat) (H0 : Obol.W32 16 L0) (W : World) :
  Calls Tryz.prog 86 #[.agg (u32s L0), .int .i64 a, .int .i64 b, .int .i64 c, .int .i64 d, .int .u32 x, .int .u32 y] W fun e w' =>
   e = .returned (.agg (u32s (Obol.mixL L0 a.toNat b.toNat c.toNat d.toNat x.toNat y.toNat))) ∧ Below W.heap.size W w' := by
 have H := Lib.hid H0
 clear H0
 go_enter Tryz.func86, Tryz.ntmps86
 go_wp2_with fail
 have R := Lib.hid ((Row.new W (u32s L0) 120).alloc (.cells #[.int .u32 0, .int .u32 0, .int .u32 0, .int .u32 0, .int .u32 0, .int .u32 0, .int .u32 0, .int .u32 0, .int .u32 0, .int .u32 0, .int .u32 0, .int .u32 0, .int .u32 0, .int .u32 0, .int .u32 0, .int .u32 0] 120))
 have B : Hid (Below W.heap.size W _) := Lib.hid (bAlloc (bAlloc (Below.refl _ W) (.cells (u32s L0) 120)) (.cells #[.int .u32 0, .int .u32 0, .int .u32 0, .int .u32 0, .int .u32 0, .int .u32 0, .int .u32 0, .int .u32 0, .int .u32 0, .int .u32 0, .int .u32 0, .int .u32 0, .int .u32 0, .int .u32 0, .int .u32 0, .int .u32 0] 120))
 have Z : Hid (Row _ (W.heap.size + 1) zeros16 120) := Lib.hid (Row.new1 W (.cells (u32s L0) 120) zeros16 120)
 generalize (W.alloc (.cells (u32s L0) 120)).alloc (.cells #[.int .u32 0, .int .u32 0, .int .u32 0, .int .u32 0, .int .u32 0, .int .u32 0, .int .u32 0, .int .u32 0, .int .u32 0, .int .u32 0, .int .u32 0, .int .u32 0, .int .u32 0, .int .u32 0, .int .u32 0, .int .u32 0] 120) = w0 at R B Z ⊢
 obtain ⟨k, hk⟩ : ∃ k, k = W.heap.size := ⟨_, rfl⟩
 rw [← hk] at R B Z ⊢
 replace hk := Lib.hid hk
 -- statement 1
 obtain ⟨va, ea, la, ua⟩ := word_at H.out (i := a) ha0 (by omega)
 have ca : w0.cell? ⟨k, a.toNat, none⟩ = some (.int .u32 va) := R.out.cell a.toNat ((u32s_at H.out ha0 (by omega)).trans (by rw [ea]))
 obtain ⟨vb, eb, lb, ub⟩ := word_at H.out (i := b) hb0 (by omega)
 have cb : w0.cell? ⟨k, b.toNat, none⟩ = some (.int .u32 vb) := R.out.cell b.toNat ((u32s_at H.out hb0 (by omega)).trans (by rw [eb]))
 obtain ⟨z, hz⟩ : ∃ z : Int, ((va + vb) % 4294967296 + x) % 4294967296 = z := ⟨_, rfl⟩
 have hZ : z = ((Obol.add3 (L0.getD a.toNat 0) (L0.getD b.toNat 0) x.toNat : Nat) : Int) := by rw [← hz]; exact add3_is' ea eb hx
 have f := R.out.free a.toNat
 obtain ⟨L1, q1⟩ : ∃ l, l = Obol.sA L0 a.toNat b.toNat x.toNat := ⟨_, rfl⟩
 have R' : Hid (Row ((w0.setCell ⟨k, a.toNat, none⟩ (.int .u32 z)).drew) k (u32s L1) 120) := Lib.hid (by rw [q1]; exact (rowSet R.out a.toNat _ hZ).drew)
 have H' : Hid (Obol.W32 16 L1) := Lib.hid (by rw [q1]; exact H.out.set a.toNat _ (Obol.add3_lt _ _ _))
 have B' := Lib.hid (bDrew (bSet (u := .int .u32 z) (o := a.toNat) B.out (Nat.le_refl k)))
 have Z' : Hid (Row ((w0.setCell ⟨k, a.toNat, none⟩ (.int .u32 z)).drew) (k + 1) zeros16 120) := Lib.hid ((Z.out.other (by omega)).drew)
 have Q1 := Lib.hid q1
 clear hZ q1 R H B Z ea eb
 go_region
 go_wp2_with fail
 clear f hz ca la ua cb lb ub
 generalize (w0.setCell ⟨k, a.toNat, none⟩ (.int .u32 z)).drew = w1 at R' B' Z' ⊢
 have R := R'; have H := H'; have B := B'; clear R' H' B'; have Z := Z'; clear Z'
 try clear z
 -- statement 2
 obtain ⟨vd, ed, ld, ud⟩ := word_at H.out (i := d) hd0 (by omega)
 have cd : w1.cell? ⟨k, d.toNat, none⟩ = some (.int .u32 vd) := R.out.cell d.toNat ((u32s_at H.out hd0 (by omega)).trans (by rw [ed]))
 obtain ⟨va, ea, la, ua⟩ := word_at H.out (i := a) ha0 (by omega)
 have ca : w1.cell? ⟨k, a.toNat, none⟩ = some (.int .u32 va) := R.out.cell a.toNat ((u32s_at H.out ha0 (by omega)).trans (by rw [ea]))
 have hq := xor_eq ed ea (H.out.lt _) (H.out.lt _)
 have hql := Obol.xor_lt (H.out.lt d.toNat) (H.out.lt a.toNat)
 obtain ⟨u, hu⟩ : ∃ u : Int, bits .xor .u32 vd va = u := ⟨_, rfl⟩
 rw [hu] at hq
 have cR := fun w => roll16 u (by omega) (by omega) w
 obtain ⟨z, hz⟩ : ∃ z : Int, ((Obol.rotW 16 u.toNat : Nat) : Int) = z := ⟨_, rfl⟩
 have hZ : z = ((Obol.rotW 16 (L1.getD d.toNat 0 ^^^ L1.getD a.toNat 0) : Nat) : Int) := by rw [← hz, hq, Int.toNat_natCast]
 rw [hz] at cR
 replace cR := Lib.hid cR
 clear hz hq
 have f := R.out.free d.toNat
 obtain ⟨L2, q2⟩ : ∃ l, l = Obol.sX L1 16 d.toNat a.toNat := ⟨_, rfl⟩
 have R' : Hid (Row ((w1.setCell ⟨k, d.toNat, none⟩ (.int .u32 z)).drew) k (u32s L2) 120) := Lib.hid (by rw [q2]; exact (rowSet R.out d.toNat _ hZ).drew)
 have H' : Hid (Obol.W32 16 L2) := Lib.hid (by rw [q2]; exact H.out.set d.toNat _ (Obol.rotW_lt _ _ hql))
 have B' := Lib.hid (bDrew (bSet (u := .int .u32 z) (o := d.toNat) B.out (Nat.le_refl k)))
 have Z' : Hid (Row ((w1.setCell ⟨k, d.toNat, none⟩ (.int .u32 z)).drew) (k + 1) zeros16 120) := Lib.hid ((Z.out.other (by omega)).drew)
 have Q2 := Lib.hid q2
 have HZ := Lib.hid hZ
 clear hZ q2 H R' B' ed ea hql Z'
 go_cut [] (fun wc => Hid (Row wc k (u32s L2) 120) ∧ Hid (Below k W wc) ∧ Hid (Row wc (k + 1) zeros16 120))
 case first =>
  go_region_with (go_at_call 108; refine (cR.out _).mono ?_; rintro e w' ⟨rfl, n, rfl⟩)
  all_goals (go_wp2_with fail; go_meet)
  all_goals exact ⟨Lib.hid (by rw [Q2.out]; repeat (first | exact R.out | refine rowSet ?_ _ _ HZ.out | apply Row.drew | apply Row.drewN)), Lib.hid (by repeat (first | exact B.out | refine bSet ?_ (Nat.le_refl k) | apply bDrew | apply bDrewN)), Lib.hid (by repeat (first | exact Z.out | refine Row.other ?_ (by omega) | apply Row.drew | apply Row.drewN))⟩
 case' rest =>
  rename World => w2
  obtain ⟨R', B', Z'⟩ := hcut
  clear R B HZ f cR hu cd ld ud ca la ua
 go_wp2_with fail
 have R := R'; have H := H'; have B := B'; have Z := Z'; clear R' H' B' Z'
 -- statement 3
 obtain ⟨vc, ec, lc, uc⟩ := word_at H.out (i := c) hc0 (by omega)
 have cc : w2.cell? ⟨k, c.toNat, none⟩ = some (.int .u32 vc) := R.out.cell c.toNat ((u32s_at H.out hc0 (by omega)).trans (by rw [ec]))
 obtain ⟨vd, ed, ld, ud⟩ := word_at H.out (i := d) hd0 (by omega)
 have cd : w2.cell? ⟨k, d.toNat, none⟩ = some (.int .u32 vd) := R.out.cell d.toNat ((u32s_at H.out hd0 (by omega)).trans (by rw [ed]))
 obtain ⟨z, hz⟩ : ∃ z : Int, (vc + vd) % 4294967296 = z := ⟨_, rfl⟩
 have hZ : z = ((Obol.add2 (L2.getD c.toNat 0) (L2.getD d.toNat 0) : Nat) : Int) := by rw [← hz]; exact add2_is ec ed
 have f := R.out.free c.toNat
 obtain ⟨L3, q3⟩ : ∃ l, l = Obol.sC L2 c.toNat d.toNat := ⟨_, rfl⟩
 have R' : Hid (Row ((w2.setCell ⟨k, c.toNat, none⟩ (.int .u32 z)).drew) k (u32s L3) 120) := Lib.hid (by rw [q3]; exact (rowSet R.out c.toNat _ hZ).drew)
 have H' : Hid (Obol.W32 16 L3) := Lib.hid (by rw [q3]; exact H.out.set c.toNat _ (Obol.add2_lt _ _))
 have B' := Lib.hid (bDrew (bSet (u := .int .u32 z) (o := c.toNat) B.out (Nat.le_refl k)))
 have Z' : Hid (Row ((w2.setCell ⟨k, c.toNat, none⟩ (.int .u32 z)).drew) (k + 1) zeros16 120) := Lib.hid ((Z.out.other (by omega)).drew)
 have Q3 := Lib.hid q3
 clear hZ q3 R H B Z ec ed
 go_region
 go_wp2_with fail
 clear f hz cc lc uc cd ld ud
 generalize (w2.setCell ⟨k, c.toNat, none⟩ (.int .u32 z)).drew = w3 at R' B' Z' ⊢
 have R := R'; have H := H'; have B := B'; clear R' H' B'; have Z := Z'; clear Z'
 try clear z
 -- statement 4
 obtain ⟨vb, eb, lb, ub⟩ := word_at H.out (i := b) hb0 (by omega)
 have cb : w3.cell? ⟨k, b.toNat, none⟩ = some (.int .u32 vb) := R.out.cell b.toNat ((u32s_at H.out hb0 (by omega)).trans (by rw [eb]))
 obtain ⟨vc, ec, lc, uc⟩ := word_at H.out (i := c) hc0 (by omega)
 have cc : w3.cell? ⟨k, c.toNat, none⟩ = some (.int .u32 vc) := R.out.cell c.toNat ((u32s_at H.out hc0 (by omega)).trans (by rw [ec]))
 have hq := xor_eq eb ec (H.out.lt _) (H.out.lt _)
 have hql := Obol.xor_lt (H.out.lt b.toNat) (H.out.lt c.toNat)
 obtain ⟨u, hu⟩ : ∃ u : Int, bits .xor .u32 vb vc = u := ⟨_, rfl⟩
 rw [hu] at hq
 have cR := fun w => roll12 u (by omega) (by omega) w
 obtain ⟨z, hz⟩ : ∃ z : Int, ((Obol.rotW 12 u.toNat : Nat) : Int) = z := ⟨_, rfl⟩
 have hZ : z = ((Obol.rotW 12 (L3.getD b.toNat 0 ^^^ L3.getD c.toNat 0) : Nat) : Int) := by rw [← hz, hq, Int.toNat_natCast]
 rw [hz] at cR
 replace cR := Lib.hid cR
 clear hz hq
 have f := R.out.free b.toNat
 obtain ⟨L4, q4⟩ : ∃ l, l = Obol.sX L3 12 b.toNat c.toNat := ⟨_, rfl⟩
 have R' : Hid (Row ((w3.setCell ⟨k, b.toNat, none⟩ (.int .u32 z)).drew) k (u32s L4) 120) := Lib.hid (by rw [q4]; exact (rowSet R.out b.toNat _ hZ).drew)
 have H' : Hid (Obol.W32 16 L4) := Lib.hid (by rw [q4]; exact H.out.set b.toNat _ (Obol.rotW_lt _ _ hql))
 have B' := Lib.hid (bDrew (bSet (u := .int .u32 z) (o := b.toNat) B.out (Nat.le_refl k)))
 have Z' : Hid (Row ((w3.setCell ⟨k, b.toNat, none⟩ (.int .u32 z)).drew) (k + 1) zeros16 120) := Lib.hid ((Z.out.other (by omega)).drew)
 have Q4 := Lib.hid q4
 have HZ := Lib.hid hZ
 clear hZ q4 H R' B' eb ec hql Z'
 go_cut [] (fun wc => Hid (Row wc k (u32s L4) 120) ∧ Hid (Below k W wc) ∧ Hid (Row wc (k + 1) zeros16 120))
 case first =>
  go_region_with (go_at_call 108; refine (cR.out _).mono ?_; rintro e w' ⟨rfl, n, rfl⟩)
  all_goals (go_wp2_with fail; go_meet)
  all_goals exact ⟨Lib.hid (by rw [Q4.out]; repeat (first | exact R.out | refine rowSet ?_ _ _ HZ.out | apply Row.drew | apply Row.drewN)), Lib.hid (by repeat (first | exact B.out | refine bSet ?_ (Nat.le_refl k) | apply bDrew | apply bDrewN)), Lib.hid (by repeat (first | exact Z.out | refine Row.other ?_ (by omega) | apply Row.drew | apply Row.drewN))⟩
 case' rest =>
  rename World => w4
  obtain ⟨R', B', Z'⟩ := hcut
  clear R B HZ f cR hu cb lb ub cc lc uc
 go_wp2_with fail
 have R := R'; have H := H'; have B := B'; have Z := Z'; clear R' H' B' Z'
 -- statement 5
 obtain ⟨va, ea, la, ua⟩ := word_at H.out (i := a) ha0 (by omega)
 have ca : w4.cell? ⟨k, a.toNat, none⟩ = some (.int .u32 va) := R.out.cell a.toNat ((u32s_at H.out ha0 (by omega)).trans (by rw [ea]))
 obtain ⟨vb, eb, lb, ub⟩ := word_at H.out (i := b) hb0 (by omega)
 have cb : w4.cell? ⟨k, b.toNat, none⟩ = some (.int .u32 vb) := R.out.cell b.toNat ((u32s_at H.out hb0 (by omega)).trans (by rw [eb]))
 obtain ⟨z, hz⟩ : ∃ z : Int, ((va + vb) % 4294967296 + y) % 4294967296 = z := ⟨_, rfl⟩
 have hZ : z = ((Obol.add3 (L4.getD a.toNat 0) (L4.getD b.toNat 0) y.toNat : Nat) : Int) := by rw [← hz]; exact add3_is' ea eb hy
 have f := R.out.free a.toNat
 obtain ⟨L5, q5⟩ : ∃ l, l = Obol.sA L4 a.toNat b.toNat y.toNat := ⟨_, rfl⟩
 have R' : Hid (Row ((w4.setCell ⟨k, a.toNat, none⟩ (.int .u32 z)).drew) k (u32s L5) 120) := Lib.hid (by rw [q5]; exact (rowSet R.out a.toNat _ hZ).drew)
 have H' : Hid (Obol.W32 16 L5) := Lib.hid (by rw [q5]; exact H.out.set a.toNat _ (Obol.add3_lt _ _ _))
 have B' := Lib.hid (bDrew (bSet (u := .int .u32 z) (o := a.toNat) B.out (Nat.le_refl k)))
 have Z' : Hid (Row ((w4.setCell ⟨k, a.toNat, none⟩ (.int .u32 z)).drew) (k + 1) zeros16 120) := Lib.hid ((Z.out.other (by omega)).drew)
 have Q5 := Lib.hid q5
 clear hZ q5 R H B Z ea eb
 go_region
 go_wp2_with fail
 clear f hz ca la ua cb lb ub
 generalize (w4.setCell ⟨k, a.toNat, none⟩ (.int .u32 z)).drew = w5 at R' B' Z' ⊢
 have R := R'; have H := H'; have B := B'; clear R' H' B'; have Z := Z'; clear Z'
 try clear z
 -- statement 6
 obtain ⟨vd, ed, ld, ud⟩ := word_at H.out (i := d) hd0 (by omega)
 have cd : w5.cell? ⟨k, d.toNat, none⟩ = some (.int .u32 vd) := R.out.cell d.toNat ((u32s_at H.out hd0 (by omega)).trans (by rw [ed]))
 obtain ⟨va, ea, la, ua⟩ := word_at H.out (i := a) ha0 (by omega)
 have ca : w5.cell? ⟨k, a.toNat, none⟩ = some (.int .u32 va) := R.out.cell a.toNat ((u32s_at H.out ha0 (by omega)).trans (by rw [ea]))
 have hq := xor_eq ed ea (H.out.lt _) (H.out.lt _)
 have hql := Obol.xor_lt (H.out.lt d.toNat) (H.out.lt a.toNat)
 obtain ⟨u, hu⟩ : ∃ u : Int, bits .xor .u32 vd va = u := ⟨_, rfl⟩
 rw [hu] at hq
 have cR := fun w => roll8 u (by omega) (by omega) w
 obtain ⟨z, hz⟩ : ∃ z : Int, ((Obol.rotW 8 u.toNat : Nat) : Int) = z := ⟨_, rfl⟩
 have hZ : z = ((Obol.rotW 8 (L5.getD d.toNat 0 ^^^ L5.getD a.toNat 0) : Nat) : Int) := by rw [← hz, hq, Int.toNat_natCast]
 rw [hz] at cR
 replace cR := Lib.hid cR
 clear hz hq
 have f := R.out.free d.toNat
 obtain ⟨L6, q6⟩ : ∃ l, l = Obol.sX L5 8 d.toNat a.toNat := ⟨_, rfl⟩
 have R' : Hid (Row ((w5.setCell ⟨k, d.toNat, none⟩ (.int .u32 z)).drew) k (u32s L6) 120) := Lib.hid (by rw [q6]; exact (rowSet R.out d.toNat _ hZ).drew)
 have H' : Hid (Obol.W32 16 L6) := Lib.hid (by rw [q6]; exact H.out.set d.toNat _ (Obol.rotW_lt _ _ hql))
 have B' := Lib.hid (bDrew (bSet (u := .int .u32 z) (o := d.toNat) B.out (Nat.le_refl k)))
 have Z' : Hid (Row ((w5.setCell ⟨k, d.toNat, none⟩ (.int .u32 z)).drew) (k + 1) zeros16 120) := Lib.hid ((Z.out.other (by omega)).drew)
 have Q6 := Lib.hid q6
 have HZ := Lib.hid hZ
 clear hZ q6 H R' B' ed ea hql Z'
 go_cut [] (fun wc => Hid (Row wc k (u32s L6) 120) ∧ Hid (Below k W wc) ∧ Hid (Row wc (k + 1) zeros16 120))
 case first =>
  go_region_with (go_at_call 108; refine (cR.out _).mono ?_; rintro e w' ⟨rfl, n, rfl⟩)
  all_goals (go_wp2_with fail; go_meet)
  all_goals exact ⟨Lib.hid (by rw [Q6.out]; repeat (first | exact R.out | refine rowSet ?_ _ _ HZ.out | apply Row.drew | apply Row.drewN)), Lib.hid (by repeat (first | exact B.out | refine bSet ?_ (Nat.le_refl k) | apply bDrew | apply bDrewN)), Lib.hid (by repeat (first | exact Z.out | refine Row.other ?_ (by omega) | apply Row.drew | apply Row.drewN))⟩
 case' rest =>
  rename World => w6
  obtain ⟨R', B', Z'⟩ := hcut
  clear R B HZ f cR hu cd ld ud ca la ua
 go_wp2_with fail
 have R := R'; have H := H'; have B := B'; have Z := Z'; clear R' H' B' Z'
 -- statement 7
 obtain ⟨vc, ec, lc, uc⟩ := word_at H.out (i := c) hc0 (by omega)
 have cc : w6.cell? ⟨k, c.toNat, none⟩ = some (.int .u32 vc) := R.out.cell c.toNat ((u32s_at H.out hc0 (by omega)).trans (by rw [ec]))
 obtain ⟨vd, ed, ld, ud⟩ := word_at H.out (i := d) hd0 (by omega)
 have cd : w6.cell? ⟨k, d.toNat, none⟩ = some (.int .u32 vd) := R.out.cell d.toNat ((u32s_at H.out hd0 (by omega)).trans (by rw [ed]))
 obtain ⟨z, hz⟩ : ∃ z : Int, (vc + vd) % 4294967296 = z := ⟨_, rfl⟩
 have hZ : z = ((Obol.add2 (L6.getD c.toNat 0) (L6.getD d.toNat 0) : Nat) : Int) := by rw [← hz]; exact add2_is ec ed
 have f := R.out.free c.toNat
 obtain ⟨L7, q7⟩ : ∃ l, l = Obol.sC L6 c.toNat d.toNat := ⟨_, rfl⟩
 have R' : Hid (Row ((w6.setCell ⟨k, c.toNat, none⟩ (.int .u32 z)).drew) k (u32s L7) 120) := Lib.hid (by rw [q7]; exact (rowSet R.out c.toNat _ hZ).drew)
 have H' : Hid (Obol.W32 16 L7) := Lib.hid (by rw [q7]; exact H.out.set c.toNat _ (Obol.add2_lt _ _))
 have B' := Lib.hid (bDrew (bSet (u := .int .u32 z) (o := c.toNat) B.out (Nat.le_refl k)))
 have Z' : Hid (Row ((w6.setCell ⟨k, c.toNat, none⟩ (.int .u32 z)).drew) (k + 1) zeros16 120) := Lib.hid ((Z.out.other (by omega)).drew)
 have Q7 := Lib.hid q7
 clear hZ q7 R H B Z ec ed
 go_region
 go_wp2_with fail
 clear f hz cc lc uc cd ld ud
 generalize (w6.setCell ⟨k, c.toNat, none⟩ (.int .u32 z)).drew = w7 at R' B' Z' ⊢
 have R := R'; have H := H'; have B := B'; clear R' H' B'; have Z := Z'; clear Z'
 try clear z
 -- statement 8
 obtain ⟨vb, eb, lb, ub⟩ := word_at H.out (i := b) hb0 (by omega)
 have cb : w7.cell? ⟨k, b.toNat, none⟩ = some (.int .u32 vb) := R.out.cell b.toNat ((u32s_at H.out hb0 (by omega)).trans (by rw [eb]))
 obtain ⟨vc, ec, lc, uc⟩ := word_at H.out (i := c) hc0 (by omega)
 have cc : w7.cell? ⟨k, c.toNat, none⟩ = some (.int .u32 vc) := R.out.cell c.toNat ((u32s_at H.out hc0 (by omega)).trans (by rw [ec]))
 have hq := xor_eq eb ec (H.out.lt _) (H.out.lt _)
 have hql := Obol.xor_lt (H.out.lt b.toNat) (H.out.lt c.toNat)
 obtain ⟨u, hu⟩ : ∃ u : Int, bits .xor .u32 vb vc = u := ⟨_, rfl⟩
 rw [hu] at hq
 have cR := fun w => roll7 u (by omega) (by omega) w
 obtain ⟨z, hz⟩ : ∃ z : Int, ((Obol.rotW 7 u.toNat : Nat) : Int) = z := ⟨_, rfl⟩
 have hZ : z = ((Obol.rotW 7 (L7.getD b.toNat 0 ^^^ L7.getD c.toNat 0) : Nat) : Int) := by rw [← hz, hq, Int.toNat_natCast]
 rw [hz] at cR
 replace cR := Lib.hid cR
 clear hz hq
 have f := R.out.free b.toNat
 obtain ⟨L8, q8⟩ : ∃ l, l = Obol.sX L7 7 b.toNat c.toNat := ⟨_, rfl⟩
 have R' : Hid (Row ((w7.setCell ⟨k, b.toNat, none⟩ (.int .u32 z)).drew) k (u32s L8) 120) := Lib.hid (by rw [q8]; exact (rowSet R.out b.toNat _ hZ).drew)
 have H' : Hid (Obol.W32 16 L8) := Lib.hid (by rw [q8]; exact H.out.set b.toNat _ (Obol.rotW_lt _ _ hql))
 have B' := Lib.hid (bDrew (bSet (u := .int .u32 z) (o := b.toNat) B.out (Nat.le_refl k)))
 have Z' : Hid (Row ((w7.setCell ⟨k, b.toNat, none⟩ (.int .u32 z)).drew) (k + 1) zeros16 120) := Lib.hid ((Z.out.other (by omega)).drew)
 have Q8 := Lib.hid q8
 have HZ := Lib.hid hZ
 clear hZ q8 H R' B' eb ec hql Z'
 go_cut [] (fun wc => Hid (Row wc k (u32s L8) 120) ∧ Hid (Below k W wc) ∧ Hid (Row wc (k + 1) zeros16 120))
 case first =>
  go_region_with (go_at_call 108; refine (cR.out _).mono ?_; rintro e w' ⟨rfl, n, rfl⟩)
  all_goals (go_wp2_with fail; go_meet)
  all_goals exact ⟨Lib.hid (by rw [Q8.out]; repeat (first | exact R.out | refine rowSet ?_ _ _ HZ.out | apply Row.drew | apply Row.drewN)), Lib.hid (by repeat (first | exact B.out | refine bSet ?_ (Nat.le_refl k) | apply bDrew | apply bDrewN)), Lib.hid (by repeat (first | exact Z.out | refine Row.other ?_ (by omega) | apply Row.drew | apply Row.drewN))⟩
 case' rest =>
  rename World => w8
  obtain ⟨R', B', Z'⟩ := hcut
  clear R B HZ f cR hu cb lb ub cc lc uc
 have R := R'; have H := H'; have B := B'; have Z := Z'; clear R' H' B' Z'
 have e : Obol.mixL L0 a.toNat b.toNat c.toNat d.toNat x.toNat y.toNat = L8 := by
  unfold Obol.mixL
  rw [← Q1.out, ← Q2.out, ← Q3.out, ← Q4.out, ← Q5.out, ← Q6.out, ← Q7.out, ← Q8.out]
 have E := Lib.hid e
 clear e Q1 Q2 Q3 Q4 Q5 Q6 Q7 Q8
 have hn : (u32s L8).size = 16 := by unfold u32s; simp [H.out.len]
 have hu : Tryz.prog.underlying 120 = some (.array 16 88) := by kernel_rfl
 have hi : (Tryz.prog.info? 120).map (·.size) = some 16 := by kernel_rfl
 have h1 : (u32s L8).toList.toArray.all (·.oneCell') = true := all_oneCell_toArray (by unfold u32s; simp; intro v _; rfl)
 have hth : w8.there (k + 1) 0 (u32s L8).toList.toArray.size := by rw [Array.toArray_toList, hn]; exact Z.out.there
 go_wp2_with (first | (refine wpList_load_mid rfl _ _ rfl k 0 rfl (u32s L8).toList _ R.out.range hu rfl (by rw [hi]; simp [hn]) ?_) | (refine wpList_store_mid rfl _ _ _ rfl (k + 1) 0 (u32s L8).toList.toArray rfl rfl hth (by rw [hi]; simp [hn]) h1 ?_))
 have RZ : Row (w8.setCells (k + 1) 0 (u32s L8).toList.toArray.toList) (k + 1) (u32s L8) 120 := by rw [Array.toArray_toList]; exact Z.out.store (u32s L8) hn
 refine bodyPost_ret (v := .agg (u32s L8)) (results_row rfl _ rfl RZ hu rfl (by rw [hi, hn])) rfl ⟨by rw [E.out], ?_⟩
 rw [← hk.out]
 exact bSetMany (Nat.le_succ k) _ _ _ B.out

end Go.Proofs.YtkfimfjjmdjbdaaGreatDoor
/- A slice of the call's own whose row is marked behind its last cell (what a string's conversion lays); appended to. -/
namespace Go.Proofs.YtkfimfjjmdjbdaaGreatDoor
open Go.RowKit

def Unfz (fz : Nat × Nat) (n : Nat) : Prop := ∀ j, j < n → ¬ (fz.1 ≤ j ∧ j < fz.2)
def OwnM (w : World) (base : Nat) (v : Value) (L : List Nat) : Prop :=
  ∃ g cap cur fz, v = .slice (some ⟨g, 0, none⟩) L.length cap ∧ base ≤ g ∧ w.heap[g]? = some (.cells cur 5 fz) ∧ Unfz fz cur.size ∧ L.length ≤ cap ∧ cap ≤ maxLen ∧ cur.size = cap ∧ cur.toList.take L.length = U8 L
theorem OwnM.keep {w w' : World} {base B : Nat} {v : Value} {L : List Nat} (h : OwnM w base v L) (hb : Below B w w') (hB : w.heap.size ≤ B) : OwnM w' base v L := by
  obtain ⟨g, cap, cur, fz, h1, h2, h3, h4⟩ := h
  exact ⟨g, cap, cur, fz, h1, h2, (hb.block g (Nat.lt_of_lt_of_le (Array.getElem?_eq_some_iff.1 h3).1 hB)).trans h3, h4⟩
theorem OwnM.shape {w : World} {base : Nat} {v : Value} {L : List Nat} (h : OwnM w base v L) : ∃ g cap, v = .slice (some ⟨g, 0, none⟩) L.length cap ∧ base ≤ g ∧ g < w.heap.size ∧ L.length ≤ cap ∧ cap ≤ maxLen ∧ BL w g 0 L := by
  obtain ⟨g, cap, cur, fz, h1, h2, h3, h4, h5, h6, h7, h8⟩ := h
  refine ⟨g, cap, h1, h2, (Array.getElem?_eq_some_iff.1 h3).1, h5, h6, fun i hi => ?_⟩
  rw [Nat.zero_add, cell_of_row w g i cur _ fz h3]
  have h9 := congrArg (·[i]?) h8
  simp only [List.getElem?_take, if_pos hi, List.getElem?_map, List.getElem?_eq_getElem hi, Array.getElem?_toList] at h9
  rw [h9, List.getD_eq_getElem?_getD, List.getElem?_eq_getElem hi]
  rfl
theorem OwnM.at {w : World} {base g n cap : Nat} {L : List Nat} (h : OwnM w base (.slice (some ⟨g, 0, none⟩) n cap) L) : L.length = n ∧ base ≤ g ∧ g < w.heap.size ∧ n ≤ cap ∧ BL w g 0 L := by
  obtain ⟨g', c', hv, h1, h2, h3, _, h5⟩ := h.shape
  simp only [Value.slice.injEq, Option.some.injEq, Addr.mk.injEq, and_true] at hv
  obtain ⟨rfl, rfl, rfl⟩ := hv
  exact ⟨rfl, h1, h2, h3, h5⟩
theorem run_storeCells_atU (P : Program) (g o : Nat) (t : TypeId) (fz : Nat × Nat) : ∀ (vs : List Value) (i : Nat) (cur : Array Value) (w : World), w.heap[g]? = some (.cells cur t fz) → Unfz fz cur.size → o + i + vs.length ≤ cur.size → (∀ v ∈ vs, v.oneCell' = true) →
    (storeCells ⟨g, o, none⟩ vs i).run P w = .ok () (w.setRow g (cur.toList.take (o + i) ++ vs ++ cur.toList.drop (o + i + vs.length)).toArray)
  | [], i, cur, w, hg, _, _, _ => by
    simp only [storeCells, List.append_nil, List.length_nil, Nat.add_zero, List.take_append_drop, Array.toArray_toList]
    rw [setRow_self w g cur t fz hg]
    rfl
  | v :: rest, i, cur, w, hg, hfz, hl, h1 => by
    have hi : o + i < cur.size := by simp at hl; omega
    have hadd : (⟨g, o, none⟩ : Addr).add i = ⟨g, o + i, none⟩ := by unfold Addr.add; split <;> simp_all
    have hcell : w.cell? ⟨g, o + i, none⟩ = some cur[o + i] := by simp [World.cell?, hg, hi]
    have hfro : w.frozen? ⟨g, o + i, none⟩ = false := by
      have h := hfz (o + i) hi
      obtain ⟨lo, hi'⟩ := fz
      simp only [World.frozen?, hg, Bool.and_eq_false_iff, decide_eq_false_iff_not]
      simp only at h
      omega
    have hst : (store ((⟨g, o, none⟩ : Addr).add i) v).run P w = .ok () (w.setRow g (cur.setIfInBounds (o + i) v)) := by
      rw [hadd, run_store P w _ v _ (h1 v (by simp)), hcell]
      simp [hfro, setCell_eq_setRow w g (o + i) cur t fz v hg]
    have ih := run_storeCells_atU P g o t fz rest (i + 1) (cur.setIfInBounds (o + i) v) (w.setRow g (cur.setIfInBounds (o + i) v)) (setRow_heap w g cur _ t _ hg) (by simpa using hfz) (by simp at hl ⊢; omega) (fun x hx => h1 x (by simp [hx]))
    simp only [storeCells, Sem.run_bind, hst, Result.andThen_ok, ih, setRow_setRow]
    congr 3
    have e := list_seg_step cur.toList (o + i) v rest (by simp at hl ⊢; omega)
    simpa [Array.toList_setIfInBounds, Nat.add_assoc] using e

theorem append_mark (w : World) (base : Nat) (v : Value) (L M : List Nat) (hown : OwnM w base v L) (a : Addr) (c : Nat) (hnews : ∀ j u, (U8 M)[j]? = some u → w.cell? (a.add j) = some u)
    (hlen : L.length + M.length ≤ 1000000) (hbase : base ≤ w.heap.size) :
    ∃ v' w', (∀ ty, (Builtin.append_ #[26, 26] ty #[v, .slice (some a) M.length c]).run Tryz.prog w = .ok v' w') ∧ OwnM w' base v' (L ++ M) ∧ Below base w w' := by
  obtain ⟨ti, hti, htz, hts, htb⟩ := info_parts info8
  obtain ⟨g, cap, cur, fz, rfl, hbg, hg, hfz, hnc, hcm, hcs, htake⟩ := hown
  have h1 : ∀ u ∈ U8 M, u.oneCell' = true := fun u hu => by obtain ⟨x, _, rfl⟩ := List.mem_map.1 hu; rfl
  have hlM : (U8 M).length = M.length := by simp
  have hlL : (U8 L).length = L.length := by simp
  have hLM : (L ++ M).length = L.length + M.length := List.length_append
  have hU : U8 (L ++ M) = U8 L ++ U8 M := by simp [U8]
  by_cases hroom : L.length + M.length ≤ cap
  · have hf := run_firstCells_some (P := Tryz.prog) w 1 M.length a M.length c (U8 M) (by simp) hnews
    have hst := run_storeCells_atU Tryz.prog g L.length 5 fz (U8 M) 0 cur w hg hfz (by rw [hlM]; omega) h1
    simp only [Nat.add_zero] at hst
    have hr : ∀ ty, (Builtin.append_ #[26, 26] ty #[.slice (some ⟨g, 0, none⟩) L.length cap, .slice (some a) M.length c]).run Tryz.prog w =
      .ok (.slice (some ⟨g, 0, none⟩) (L.length + M.length) cap) (w.setRow g (cur.toList.take L.length ++ U8 M ++ cur.toList.drop (L.length + (U8 M).length)).toArray) := by
      intro ty
      simp [Builtin.append_, run_underlying Tryz.underlying26, Go.sizeOf, typeInfo, hti, hts, Builtin.lenOf, hroom, hf, Addr.add_lit, hst]
    refine ⟨_, _, hr, ⟨g, cap, _, fz, by rw [hLM], hbg, setRow_heap w g cur _ _ fz hg, ?_, by omega, hcm, ?_, ?_⟩, ?_⟩
    · intro j hj
      refine hfz j ?_
      simp only [List.size_toArray, List.length_append, List.length_take, List.length_drop, Array.length_toList, hlM] at hj
      omega
    · simp only [List.size_toArray, List.length_append, List.length_take, List.length_drop, Array.length_toList, hlM]
      omega
    · rw [htake, hU, hLM, ← hlL, ← hlM, ← List.length_append]
      exact List.take_left
    · exact ⟨rfl, rfl, rfl, by simp, fun k hk => setRow_other w g k _ (by omega)⟩
  · have holds : ∀ j u, (U8 L)[j]? = some u → w.cell? ((⟨g, 0, none⟩ : Addr).add j) = some u := fun j u hu => by
      have hj : j < L.length := by have := (List.getElem?_eq_some_iff.1 hu).1; simpa using this
      rw [addP, Nat.zero_add, cell_of_row w g j cur _ fz hg]
      rw [← htake, List.getElem?_take, if_pos hj] at hu
      simpa using hu
    have hr := fun ty => run_append_grow (P := Tryz.prog) w 26 ty 5 ti (.int .u8 0) Tryz.underlying26 hti htz ⟨g, 0, none⟩ L.length cap (U8 L) (by rw [hts]; simp) holds a M.length c (U8 M) (by rw [hts]; simp) hnews (by omega) (by omega) (growslice_fits (by omega) (by rw [htb]; omega))
    have hge := grownCap_ge w (L.length + M.length) cap 5
    have hcm2 : grownCap w (L.length + M.length) cap 5 ≤ maxLen := grownCap_le_maxLen w _ cap _ (by unfold maxLen; omega)
    refine ⟨_, _, hr, ⟨w.heap.size, _, _, (0, 0), by rw [hLM], hbase, heap_alloc_new w.drew _, fun j _ => by omega, by omega, hcm2, ?_, ?_⟩, ⟨rfl, rfl, rfl, by simp, fun k hk => heap_alloc_old w.drew _ (Nat.lt_of_lt_of_le hk hbase : k < w.drew.heap.size)⟩⟩
    · have hz1 : (Value.int IntKind.u8 0).cells.size = 1 := rfl
      simp only [Array.size_append, List.size_toArray, size_zeroCells, hz1, hlL, hlM]
      omega
    · simp only [Array.toList_append, List.append_assoc]
      rw [← List.append_assoc, hU, hLM, ← hlL, ← hlM, ← List.length_append]
      exact List.take_left

/-- A string's bytes in a row of their own. -/
theorem conv_str (w : World) (s : ByteArray) (hs : s.size ≤ 1000000) :
    ∃ v w', (convert 9 26 (.string s)).run Tryz.prog w = .ok v w' ∧ OwnM w' w.heap.size v (strL s) ∧ Below w.heap.size w w' := by
  have hr := Lib.run_convert_string_bytes (P := Tryz.prog) w 9 26 5 s Tryz.underlying9 Tryz.underlying26 Tryz.underlying5
  have hge := grownCap_ge w s.size 0 5
  have hcm : grownCap w s.size 0 5 ≤ maxLen := grownCap_le_maxLen w _ 0 _ (by unfold maxLen; omega)
  have hsz : (Lib.bytesCells w 5 s).size = grownCap w s.size 0 5 := by
    unfold Lib.bytesCells
    simp only [Array.size_append, Array.size_map, Array.size_replicate]
    have : s.data.size = s.size := rfl
    omega
  refine ⟨_, _, hr, ⟨w.heap.size, _, _, _, by rw [strL_len], Nat.le_refl _, Lib.bytesWorld_at_new w 5 s, ?_, by rw [strL_len]; exact hge, hcm, hsz, ?_⟩, ?_⟩
  · intro j hj
    simp only
    omega
  · unfold Lib.bytesCells strL U8
    have e : (List.map (fun b => b.toNat) s.data.toList).length = (s.data.map fun b => Value.int .u8 (b.toNat : Int)).toList.length := by simp
    rw [e, Array.toList_append, List.take_left]
    simp
  · unfold Lib.bytesWorld
    exact bFreeze (bAlloc (bDrew (Below.refl _ _)) _) (Nat.le_refl _) _ _

end Go.Proofs.YtkfimfjjmdjbdaaGreatDoor
