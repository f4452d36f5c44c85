import Derived.Test.YtkfimfjjmdjbdaaGreatDoorUe
import Derived.Lib.BufferWrite
import Derived.Laws.CopyOwn
import Derived.Test.YtkfimfjjmdjbdaaGreatDoorUc
import Derived.Laws.BytesArg
import Derived.Laws.AppendOwnNone
import Derived.Test.YtkfimfjjmdjbdaaGreatDoorUa
import Derived.Test.YtkfimfjjmdjbdaaGreatDoorUd
import Derived.Test.YtkfimfjjmdjbdaaGreatDoorUb
set_option linter.unusedVariables false
set_option linter.unusedSimpArgs false
set_option linter.unusedSectionVars false
/- Walks: package blake: the digest. -/
namespace Obol

/-- A block's bytes. -/
def blockL (b : List Nat) (j : Nat) : List Nat := (List.range 64).map fun i => b.getD (64 * j + i) 0
theorem blockL_get (b : List Nat) (j i : Nat) (hi : i < 64) : (blockL b j).getD i 0 = b.getD (64 * j + i) 0 := by
  unfold blockL
  rw [List.getD_eq_getElem?_getD, List.getElem?_map, List.getElem?_range hi]
  rfl
theorem blockL_len (b : List Nat) (j : Nat) : (blockL b j).length = 64 := by simp [blockL]
theorem msg_block (b : List Nat) (j : Nat) : msgL (blockL b j) 0 = msgL b (64 * j) := by
  unfold msgL
  refine List.map_congr_left fun i hi => ?_
  have hi := List.mem_range.1 hi
  unfold wordAt
  rw [blockL_get _ _ _ (by omega), blockL_get _ _ _ (by omega), blockL_get _ _ _ (by omega), blockL_get _ _ _ (by omega)]
  simp only [Nat.zero_add, Nat.add_assoc]
def pad8 (p : List Nat) : List Nat := (List.range 8).map fun i => p.getD i 0
theorem pad8_get (p : List Nat) (i : Nat) (hi : i < 8) : (pad8 p).getD i 0 = p.getD i 0 := by
  unfold pad8
  rw [List.getD_eq_getElem?_getD, List.getElem?_map, List.getElem?_range hi]
  rfl
theorem pad8_len (p : List Nat) : (pad8 p).length = 8 := by simp [pad8]
theorem word_pad (p : List Nat) (o : Nat) (h : o + 3 < 8) : wordAt (pad8 p) o = wordAt p o := by
  unfold wordAt
  rw [pad8_get _ _ (by omega), pad8_get _ _ (by omega), pad8_get _ _ (by omega), pad8_get _ _ (by omega)]

end Obol
namespace Go.Proofs.YtkfimfjjmdjbdaaGreatDoor
open Go.RowKit

theorem byte_lt (b : UInt8) : b.toNat < 256 := b.toNat_lt
/-- A string's bytes. -/
def strL (s : ByteArray) : List Nat := s.data.toList.map fun b => b.toNat
theorem strL_lt (s : ByteArray) (i : Nat) : (strL s).getD i 0 < 256 := by
  unfold strL
  rw [List.getD_eq_getElem?_getD, List.getElem?_map]
  cases s.data.toList[i]? with
  | none => decide
  | some x => exact byte_lt x
theorem strL_len (s : ByteArray) : (strL s).length = s.size := by unfold strL; simp

theorem setRow_row {w : World} {g : Nat} {cs cs' : Array Value} {t : TypeId} (h : Row w g cs t) : Row (w.setRow g cs') g cs' t := setRow_heap w g cs cs' t (0, 0) h
theorem setRow_keep {w : World} {g b : Nat} {cs cs' : Array Value} {t : TypeId} (h : Row w b cs t) (hne : b ≠ g) : Row (w.setRow g cs') b cs t := (setRow_other w g b cs' hne).trans h
theorem bSetRow {B : Nat} {a w : World} (h : Below B a w) {g : Nat} (hg : B ≤ g) (cs : Array Value) : Below B a (w.setRow g cs) :=
  ⟨h.os, h.tape, h.output, by rw [size_setRow]; exact h.size, fun k hk => (setRow_other w g k cs (by omega)).trans (h.block k hk)⟩
theorem sizeU8 : (Tryz.prog.info? 5).map (·.size) = some 1 := by kernel_rfl
theorem bFirstL (w : World) :
    Calls Tryz.prog 77 #[] w fun e w' => e = .returned (.agg #[.int .u32 1779033703, .int .u32 3144134277, .int .u32 1013904242, .int .u32 2773480762, .int .u32 1359893119, .int .u32 2600822924, .int .u32 528734635, .int .u32 1541459225]) ∧ Below w.heap.size w w' := bFirst w
abbrev z8 : Array Value := #[.int .u8 0, .int .u8 0, .int .u8 0, .int .u8 0, .int .u8 0, .int .u8 0, .int .u8 0, .int .u8 0]
theorem copy_person (W : World) (g : Nat) (s : ByteArray) (hs : s.size ≤ 8) (R : Row W g z8 116) :
    (Builtin.copy_ #[26, 9] 3 #[.slice (some ⟨g, 0, none⟩) 8 8, .string s]).run Tryz.prog W = .ok (goInt s.size) (W.setRow g (u8s (Obol.pad8 (strL s)))) := by
  rw [Lib.run_copy_row_string W 26 9 3 5 g 0 8 8 s z8 116 Tryz.underlying26 sizeU8 R hs (by simpa using hs)]
  congr 2
  apply Array.toList_inj.1
  show List.take 0 z8.toList ++ Lib.byteCells s.data.toList ++ List.drop (0 + s.size) z8.toList = (u8s (Obol.pad8 (strL s))).toList
  have e1 : (u8s (Obol.pad8 (strL s))).toList.length = 8 := by rw [Array.length_toList, u8s_size, Obol.pad8_len]
  have e2 : ((List.take 0 z8.toList ++ Lib.byteCells s.data.toList ++ List.drop (0 + s.size) z8.toList)).length = 8 := by
    rw [List.length_append, List.length_append, Lib.byteCells_length, List.length_drop, ← Lib.size_eq]
    simp
    omega
  refine List.ext_getElem? fun j => ?_
  by_cases hj : j < 8
  · have h1 : (u8s (Obol.pad8 (strL s))).toList[j]? = some (.int .u8 (((strL s).getD j 0 : Nat) : Int)) := by
      rw [Array.getElem?_toList, u8s_get _ _ (by rw [Obol.pad8_len]; exact hj), Obol.pad8_get _ _ hj]
    rw [h1]
    simp only [List.take_zero, List.nil_append]
    rw [List.getElem?_append, Lib.byteCells_length, ← Lib.size_eq]
    split
    · rename_i h
      have h3 : j < s.data.toList.length := by rw [← Lib.size_eq]; exact h
      unfold Lib.byteCells strL
      rw [List.getElem?_map, List.getD_eq_getElem?_getD, List.getElem?_map, List.getElem?_eq_getElem h3]
      rfl
    · rename_i h
      have h3 : (strL s).getD j 0 = 0 := by
        rw [List.getD_eq_getElem?_getD, List.getElem?_eq_none (by rw [strL_len]; omega)]
        rfl
      rw [h3, List.getElem?_drop, show 0 + s.size + (j - s.size) = j by omega]
      match j, hj with
      | 0, _ => rfl
      | 1, _ => rfl
      | 2, _ => rfl
      | 3, _ => rfl
      | 4, _ => rfl
      | 5, _ => rfl
      | 6, _ => rfl
      | 7, _ => rfl
  · rw [List.getElem?_eq_none (by omega), List.getElem?_eq_none (by omega)]

theorem startV_w {h : List Nat} (H : Obol.W32 8 h) (count : Nat) (last : Bool) : Obol.W32 16 (Obol.startV h count last) := by
  have h0 := app_w H first_w
  have h1 := h0.set 12 _ (Obol.xor_lt (h0.lt 12) (Nat.mod_lt count (by decide : 4294967296 > 0)))
  have h2 := h1.set 13 _ (Obol.xor_lt (h1.lt 13) (Nat.mod_lt (count / 4294967296) (by decide : 4294967296 > 0)))
  unfold Obol.startV Obol.last14
  cases last
  · exact h2
  · exact h2.set 14 _ (Obol.xor_lt (h2.lt 14) (by decide : 4294967295 < 4294967296))
theorem cols_w (M : List Nat) (i : Nat) : ∀ (k : Nat) (V : List Nat), Obol.W32 16 V → Obol.W32 16 (Obol.cols M i k V)
  | 0, _, h => h
  | k + 1, V, h => mixL_w (cols_w M i k V h) _ _ _ _ _ _
theorem dias_w (M : List Nat) (i : Nat) : ∀ (k : Nat) (V : List Nat), Obol.W32 16 V → Obol.W32 16 (Obol.dias M i k V)
  | 0, _, h => h
  | k + 1, V, h => mixL_w (dias_w M i k V h) _ _ _ _ _ _
theorem rnds_w (M : List Nat) : ∀ (i : Nat) (V : List Nat), Obol.W32 16 V → Obol.W32 16 (Obol.rnds M i V)
  | 0, _, h => h
  | i + 1, V, h => dias_w M i 4 _ (cols_w M i 4 _ (rnds_w M i V h))
theorem endV_w {h v : List Nat} (H : Obol.W32 8 h) (HV : Obol.W32 16 v) : ∀ i : Nat, Obol.W32 8 (Obol.endV h v i h)
  | 0 => H
  | i + 1 => (endV_w H HV i).set _ _ (Obol.xor_lt (H.lt _) (Obol.xor_lt (HV.lt _) (HV.lt _)))
theorem pressL_w {h : List Nat} (H : Obol.W32 8 h) (m : List Nat) (count : Nat) (last : Bool) : Obol.W32 8 (Obol.pressL h m count last) := endV_w H (rnds_w m 10 _ (startV_w H count last)) 8
theorem initH_w {p : List Nat} (h : ∀ i, p.getD i 0 < 256) : Obol.W32 8 (Obol.initH p) :=
  ((first_w.set 0 _ (by decide)).set 6 _ (Obol.xor_lt (by decide) (Obol.wordAt_lt p h 0))).set 7 _ (Obol.xor_lt (by decide) (Obol.wordAt_lt p h 4))
theorem stH_w {p : List Nat} (h : ∀ i, p.getD i 0 < 256) (b : List Nat) : ∀ j, Obol.W32 8 (Obol.stH p b j)
  | 0 => initH_w h
  | j + 1 => pressL_w (stH_w h b j) _ _ _

/-- What is left of the bytes. -/
structure SlI (base : Nat) (w : World) (a : Option Addr) (c : Nat) (R : List Nat) : Prop where
  le : R.length ≤ c
  cap : c ≤ 9223372036854775807
  no : a = none → R.length = 0 ∧ c = 0
  bl : 0 < R.length → ∃ b o, a = some ⟨b, o, none⟩ ∧ b < base ∧ BL w b o R
theorem SlI.below {base : Nat} {w w' : World} {a : Option Addr} {c : Nat} {R : List Nat} (h : SlI base w a c R) (hb : Below base w w') : SlI base w' a c R :=
  ⟨h.le, h.cap, h.no, fun h0 => by
    obtain ⟨b, o, h1, h2, h3⟩ := h.bl h0
    exact ⟨b, o, h1, h2, h3.below hb h2⟩⟩
def BlkI (len j : Nat) (fl : Bool) : Prop := fl = decide (0 < j ∧ len ≤ 64 * j) ∧ (j = 0 ∨ j = 1 ∨ 64 * (j - 1) < len)
def slLen : Value → Nat
  | .slice _ n _ => n
  | _ => 0
def flag : Value → Nat
  | .bool true => 0
  | _ => 1
abbrev z64 : Array Value := #[.int .u8 0, .int .u8 0, .int .u8 0, .int .u8 0, .int .u8 0, .int .u8 0, .int .u8 0, .int .u8 0, .int .u8 0, .int .u8 0, .int .u8 0, .int .u8 0, .int .u8 0, .int .u8 0, .int .u8 0, .int .u8 0, .int .u8 0, .int .u8 0, .int .u8 0, .int .u8 0, .int .u8 0, .int .u8 0, .int .u8 0, .int .u8 0, .int .u8 0, .int .u8 0, .int .u8 0, .int .u8 0, .int .u8 0, .int .u8 0, .int .u8 0, .int .u8 0, .int .u8 0, .int .u8 0, .int .u8 0, .int .u8 0, .int .u8 0, .int .u8 0, .int .u8 0, .int .u8 0, .int .u8 0, .int .u8 0, .int .u8 0, .int .u8 0, .int .u8 0, .int .u8 0, .int .u8 0, .int .u8 0, .int .u8 0, .int .u8 0, .int .u8 0, .int .u8 0, .int .u8 0, .int .u8 0, .int .u8 0, .int .u8 0, .int .u8 0, .int .u8 0, .int .u8 0, .int .u8 0, .int .u8 0, .int .u8 0, .int .u8 0, .int .u8 0]
theorem z64_eq : u8s (zs 64) = z64 := rfl
theorem addP (b o i : Nat) : (⟨b, o, none⟩ : Addr).add i = ⟨b, o + i, none⟩ := by unfold Addr.add; split <;> simp_all
set_option maxRecDepth 8000 in
theorem copy_block (W : World) (g : Nat) (R0 : Row W g (u8s (zs 64)) 117) (b o c : Nat) (L : List Nat) (j : Nat) (hc : BL W b o (L.drop (64 * j))) :
    (Builtin.copy_ #[26, 26] 3 #[.slice (some ⟨g, 0, none⟩) 64 64, .slice (some ⟨b, o, none⟩) (L.drop (64 * j)).length c]).run Tryz.prog W = .ok (goInt (min 64 (L.drop (64 * j)).length : Nat)) (W.setRow g (u8s (Obol.blockL L j))) := by
  have hl : (U8 ((L.drop (64 * j)).take 64)).length = min 64 (L.drop (64 * j)).length := by simp
  have h := run_copy_row (P := Tryz.prog) W 26 26 3 5 g 0 64 64 ⟨b, o, none⟩ (L.drop (64 * j)).length c (u8s (zs 64)) 117 (U8 ((L.drop (64 * j)).take 64)) Tryz.underlying26 sizeU8 R0
    (by rw [hl]; exact Nat.min_comm _ _) (fun i v hi => by
      have hil : i < ((L.drop (64 * j)).take 64).length := by
        have := (List.getElem?_eq_some_iff.1 hi).1
        simpa using this
      rw [addP, hc i (by rw [List.length_take] at hil; omega)]
      rw [List.getElem?_map, List.getElem?_eq_getElem hil] at hi
      rw [List.getElem_take] at hi
      rw [List.getD_eq_getElem?_getD, List.getElem?_eq_getElem (by rw [List.length_take] at hil; omega)]
      simpa using hi)
    (by rw [u8s_size]; simp; omega) (fun v hv => by
      obtain ⟨x, _, rfl⟩ := List.mem_map.1 hv
      rfl)
  rw [h, hl]
  congr 2
  apply Array.toList_inj.1
  show List.take 0 (u8s (zs 64)).toList ++ U8 ((L.drop (64 * j)).take 64) ++ List.drop (0 + min 64 (L.drop (64 * j)).length) (u8s (zs 64)).toList = (u8s (Obol.blockL L j)).toList
  have e1 : (u8s (Obol.blockL L j)).toList.length = 64 := by rw [Array.length_toList, u8s_size, Obol.blockL_len]
  have e3 : (u8s (zs 64)).toList.length = 64 := by rw [Array.length_toList, u8s_size]; simp
  refine List.ext_getElem? fun i => ?_
  simp only [List.take_zero, List.nil_append, Nat.zero_add]
  rw [List.getElem?_append, hl]
  by_cases hi : i < 64
  · have hb1 : (u8s (Obol.blockL L j)).toList[i]? = some (.int .u8 ((L.getD (64 * j + i) 0 : Nat) : Int)) := by
      rw [Array.getElem?_toList, u8s_get _ _ (by rw [Obol.blockL_len]; exact hi), Obol.blockL_get _ _ _ hi]
    have hb2 : (u8s (zs 64)).toList[i]? = some (.int .u8 0) := by
      rw [Array.getElem?_toList, u8s_get _ _ (by simpa using hi)]
      simp [List.getD_eq_getElem?_getD, hi]
    rw [hb1]
    split
    · rename_i h
      have h2 : i < ((L.drop (64 * j)).take 64).length := by rw [List.length_take]; omega
      rw [List.getElem?_map, List.getElem?_eq_getElem h2, List.getElem_take, List.getElem_drop, List.getD_eq_getElem?_getD, List.getElem?_eq_getElem (by rw [List.length_drop] at h; omega)]
      rfl
    · rename_i h
      have h2 : L.getD (64 * j + i) 0 = 0 := by
        rw [List.getD_eq_getElem?_getD, List.getElem?_eq_none (by rw [List.length_drop] at h; omega)]
        rfl
      rw [h2, List.getElem?_drop, show min 64 (L.drop (64 * j)).length + (i - min 64 (L.drop (64 * j)).length) = i by omega, hb2]
      rfl
  · rw [List.getElem?_eq_none (show (u8s (Obol.blockL L j)).toList.length ≤ i by omega), if_neg (by omega), List.getElem?_eq_none (by rw [List.length_drop, e3]; omega)]
theorem copy_block' (W : World) (g : Nat) (R0 : Row W g z64 117) (b o c : Nat) (L : List Nat) (j : Nat) (hc : BL W b o (L.drop (64 * j))) :
    (Builtin.copy_ #[26, 26] 3 #[.slice (some ⟨g, 0, none⟩) 64 64, .slice (some ⟨b, o, none⟩) (L.drop (64 * j)).length c]).run Tryz.prog W = .ok (goInt (min 64 (L.drop (64 * j)).length : Nat)) (W.setRow g (u8s (Obol.blockL L j))) :=
  copy_block W g (by rw [z64_eq]; exact R0) b o c L j hc
theorem slice_rest {P : Program} (t e : TypeId) (ht : P.underlying t = some (.slice e)) (he : (P.info? e).map (fun i => (i.zero, i.size, i.bytes)) = some (some (.int .u8 0), 1, 1)) (b o len c n : Nat) (h1 : n ≤ len) (_ : len ≤ c) (W : World) :
    (Instr.slice t (.slice (some ⟨b, o, none⟩) len c) (some (.int .i64 (n : Int))) none none).run P W = .ok (.slice (if c = n then some ⟨b, o, none⟩ else some ⟨b, o + n, none⟩) (len - n) (c - n)) W := by
  have e2 : P.elem t = e := by simp [Program.elem, ht]
  obtain ⟨i, hi, _, hs, _⟩ := info_parts he
  rw [run_slice_l W t _ _ _ (by rw [e2]; exact ht) .i64 n (by omega) (by omega), e2]
  simp [Go.sizeOf, typeInfo, hi, hs, Result.andThen, sliced]
  split
  · rfl
  · rw [addP]
theorem blockL_lt {n : Nat} {L : List Nat} (H : B8 n L) (j i : Nat) : (Obol.blockL L j).getD i 0 < 256 := by
  by_cases hi : i < 64
  · rw [Obol.blockL_get _ _ _ hi]; exact H.lt _
  · rw [List.getD_eq_getElem?_getD, List.getElem?_eq_none (by rw [Obol.blockL_len]; omega)]
    decide
theorem wordsB_len : ∀ l : List Nat, (Obol.wordsB l).length = 4 * l.length
  | [] => rfl
  | x :: l => by
    have := wordsB_len l
    unfold Obol.wordsB at *
    rw [List.flatMap_cons, List.length_append, this, List.length_cons]
    simp [Obol.bytes4]
    omega
theorem wordsB_take {l : List Nat} {i : Nat} (hi : i < l.length) : Obol.wordsB (l.take (i + 1)) = Obol.wordsB (l.take i) ++ Obol.bytes4 (l.getD i 0) := by
  unfold Obol.wordsB
  rw [List.take_add_one, List.getElem?_eq_getElem hi, List.flatMap_append, List.getD_eq_getElem?_getD, List.getElem?_eq_getElem hi]
  simp
theorem slice_zero {P : Program} (t e : TypeId) (ht : P.underlying t = some (.slice e)) (he : (P.info? e).map (fun i => (i.zero, i.size, i.bytes)) = some (some (.int .u8 0), 1, 1)) (ao : Option Addr) (c : Nat) :
    ∃ a2, (a2 = none → ao = none) ∧ ∀ W : World, (Instr.slice t (.slice ao 0 c) (some (.int .i64 0)) none none).run P W = .ok (.slice a2 0 c) W := by
  have e2 : P.elem t = e := by simp [Program.elem, ht]
  obtain ⟨i, hi, _, hs, _⟩ := info_parts he
  refine ⟨if c = 0 then ao else ao.map (·.add 0), (fun h => by split at h <;> simp_all), fun W => ?_⟩
  rw [run_slice_l W t _ _ _ (by rw [e2]; exact ht) .i64 0 (by omega) (by omega), e2]
  simp [Go.sizeOf, typeInfo, hi, hs, Result.andThen, sliced]
theorem copy_nothing (W : World) (g : Nat) (R0 : Row W g z64 117) (ao : Option Addr) (c : Nat) (h : ao = none → c = 0) :
    (Builtin.copy_ #[26, 26] 3 #[.slice (some ⟨g, 0, none⟩) 64 64, .slice ao 0 c]).run Tryz.prog W = .ok (goInt 0) W := by
  cases ao with
  | none =>
    rw [h rfl]
    exact run_copy_nil Tryz.prog W 26 26 3 5 ⟨g, 0, none⟩ 64 64 Tryz.underlying26 (by rw [sizeU8]; rfl)
  | some ad =>
    rw [run_copy_row (P := Tryz.prog) W 26 26 3 5 g 0 64 64 ad 0 c z64 117 [] Tryz.underlying26 sizeU8 R0 rfl (fun i v hi => by cases hi) (by simp) (fun v hv => by cases hv)]
    simp only [List.length_nil, List.take_zero, List.nil_append, List.append_nil, List.drop_zero, Nat.add_zero, Array.toArray_toList]
    rw [setRow_self W g z64 117 (0, 0) R0]
    rfl
theorem block_nil (L : List Nat) (j : Nat) (h : L.length ≤ 64 * j) : Obol.blockL L j = zs 64 := by
  refine List.ext_getElem (by rw [Obol.blockL_len]; simp) fun i h1 h2 => ?_
  rw [Obol.blockL_len] at h1
  have := Obol.blockL_get L j i h1
  rw [List.getD_eq_getElem?_getD, List.getElem?_eq_getElem (by rw [Obol.blockL_len]; exact h1), List.getD_eq_getElem?_getD, List.getElem?_eq_none (by omega)] at this
  simpa using this

end Go.Proofs.YtkfimfjjmdjbdaaGreatDoor
/- Bytes as strings. -/
namespace Go.Proofs.YtkfimfjjmdjbdaaGreatDoor
open Go.RowKit

noncomputable def strB (L : List Nat) : ByteArray := strOfNums (L.map fun (n : Nat) => (n : Int))
theorem conv8 {w : World} {b o cap n : Nat} {L : List Nat} (h : BL w b o L) (hn : L.length = n) :
    (convert 26 9 (.slice (some ⟨b, o, none⟩) n cap)).run Tryz.prog w = .ok (.string (strB L)) w :=
  run_convert_bytes_arg (P := Tryz.prog) w 26 5 Tryz.underlying26 Tryz.underlying5 b o n cap (L.map fun (n : Nat) => (n : Int)) (by simp [hn])
    (fun i hi => by
      rw [h i (by omega), List.getD_eq_getElem?_getD, List.getD_eq_getElem?_getD, List.getElem?_map]
      cases L[i]? <;> rfl) 9 Tryz.underlying9
theorem conv0 (w : World) (ao : Option Addr) (c : Nat) :
    (convert 26 9 (.slice ao 0 c)).run Tryz.prog w = .ok (.string (strB [])) w := by
  cases ao with
  | none => exact run_convert_bytes_nil w 26 5 Tryz.underlying26 Tryz.underlying5 0 c 9 Tryz.underlying9
  | some ad =>
    rw [run_convert_bytes_string w 26 9 5 _ 0 c Tryz.underlying26 Tryz.underlying5 Tryz.underlying9,
      run_bytesToString w ad 0 c [] (run_loadCells_list w ad [] (fun j v h => by cases h))]
    rfl
theorem convAny {w : World} {ao : Option Addr} {len cap : Nat} {L : List Nat} (hn : L.length = len) (h : 0 < len → ∃ b o, ao = some ⟨b, o, none⟩ ∧ BL w b o L) :
    (convert 26 9 (.slice ao len cap)).run Tryz.prog w = .ok (.string (strB L)) w := by
  by_cases h0 : 0 < len
  · obtain ⟨b, o, rfl, hb⟩ := h h0
    exact conv8 hb hn
  · obtain rfl : len = 0 := by omega
    obtain rfl : L = [] := List.length_eq_zero_iff.1 hn
    exact conv0 w ao cap

end Go.Proofs.YtkfimfjjmdjbdaaGreatDoor
/- Bytes copied into a slice of the call's own, and written there. -/
namespace Go.Proofs.YtkfimfjjmdjbdaaGreatDoor
open Go.RowKit

theorem addB (b o j : Nat) : (⟨b, o, none⟩ : Addr).add j = ⟨b, o + j, none⟩ := by unfold Addr.add; split <;> simp_all
theorem own_set {w : World} {base g n cap : Nat} {L : List Nat} (h : OwnB w base (.slice (some ⟨g, 0, none⟩) n cap) L) (hn : L.length = n) (j Z : Nat) {z : Int} (hz : z = (Z : Int)) :
    OwnB (w.setCell ⟨g, j, none⟩ (.int .u8 z)) base (.slice (some ⟨g, 0, none⟩) n cap) (L.set j Z) := by
  subst hn hz
  have h2 := (World.ownsRow.stored h j (.int .u8 ((Z : Nat) : Int))).1
  unfold OwnB
  rw [List.length_set, U8, List.map_set]
  exact h2
theorem own_cell {w : World} {base g n cap : Nat} {L : List Nat} (h : OwnB w base (.slice (some ⟨g, 0, none⟩) n cap) L) (hn : L.length = n) {i : Int} (h0 : 0 ≤ i) (h1 : i < n) :
    w.cell? ⟨g, i.toNat, none⟩ = some (.int .u8 ((L.getD i.toNat 0 : Nat) : Int)) := by
  subst hn
  have := h.bl i.toNat (by omega)
  rwa [Nat.zero_add] at this
theorem own_blz {w : World} {base g n cap : Nat} {L : List Nat} (h : OwnB w base (.slice (some ⟨g, 0, none⟩) n cap) L) (hn : L.length = n) : BL w g 0 L := by
  subst hn
  exact h.bl
theorem own_free {w : World} {base g n cap : Nat} {L : List Nat} (h : OwnB w base (.slice (some ⟨g, 0, none⟩) n cap) L) (hn : L.length = n) (j : Nat) : w.frozen? ⟨g, j, none⟩ = false := by
  subst hn
  exact World.ownsRow.frozenAt h j
theorem own_ge {w : World} {base g n cap : Nat} {L : List Nat} (h : OwnB w base (.slice (some ⟨g, 0, none⟩) n cap) L) : base ≤ g := (World.ownsRow.lt h g rfl).1
/-- An empty slice of the call's own, just made. -/
theorem own_empty (w : World) (base : Nat) (hb : base ≤ w.heap.size) : OwnB (w.alloc (.cells #[] 5)) base (.slice (some ⟨w.heap.size, 0, none⟩) 0 0) [] :=
  World.ownsRow_made w #[] 0 hb (by decide) rfl
/-- What is owned again, as a slice whose shape is known. -/
theorem own_shape {w : World} {base : Nat} {v : Value} {L : List Nat} (h : OwnB w base v L) (hv : v ≠ .slice none 0 0) : ∃ g cap, v = .slice (some ⟨g, 0, none⟩) L.length cap := by
  rcases h.2 with ⟨rfl, _⟩ | ⟨g, cap, cur, rfl, _⟩
  · exact absurd rfl hv
  · exact ⟨g, cap, rfl⟩

theorem getD_put (L : List Nat) (i j z : Nat) (hi : i < L.length) : (L.set i z).getD j 0 = if i = j then z else L.getD j 0 := by
  rw [List.getD_eq_getElem?_getD, List.getElem?_set, List.getD_eq_getElem?_getD]
  split
  · rename_i h
    first | rfl | (rw [if_pos (by omega)]; rfl)
  · rfl
theorem own_cap {w : World} {base g n cap : Nat} {L : List Nat} (h : OwnB w base (.slice (some ⟨g, 0, none⟩) n cap) L) : L.length ≤ cap ∧ cap ≤ 9223372036854775807 := by
  rcases h.2 with ⟨h, _⟩ | ⟨g', cap', cur, h1, _, _, h4, h5, _⟩
  · cases h
  · simp only [Value.slice.injEq] at h1
    obtain ⟨_, _, rfl⟩ := h1
    exact ⟨h4, by unfold maxLen at h5; omega⟩
theorem own_other {w : World} {base g n cap b o : Nat} {u : Value} {L : List Nat} (h : OwnB w base (.slice (some ⟨g, 0, none⟩) n cap) L) (hne : g ≠ b) : OwnB (w.setCell ⟨b, o, none⟩ u) base (.slice (some ⟨g, 0, none⟩) n cap) L := by
  refine ⟨h.1, ?_⟩
  rcases h.2 with h | ⟨g', cap', cur, h1, h2, h3, h4⟩
  · exact .inl h
  · refine .inr ⟨g', cap', cur, h1, h2, ?_, h4⟩
    simp only [Value.slice.injEq, Option.some.injEq, Addr.mk.injEq, and_true] at h1
    rw [← h1.1]
    rw [← h1.1] at h3
    exact (heap_setCell_other w ⟨b, o, none⟩ g u hne).trans h3
theorem own_lt {w : World} {base g n cap : Nat} {L : List Nat} (h : OwnB w base (.slice (some ⟨g, 0, none⟩) n cap) L) : g < w.heap.size := (World.ownsRow.lt h g rfl).2
/-- What is known behind the copy. -/
structure Cp (w w1 w2 : World) (g cap2 len : Nat) (L : List Nat) : Prop where
  own : OwnB w2 w1.heap.size (.slice (some ⟨g, 0, none⟩) len cap2) L
  bel : Below w1.heap.size w1 w2

/-- A loop that adds one to each byte: what its rounds hold on to. -/
def LoI (base : Nat) (wr : World) (g cap2 len : Nat) (i : Int) : Prop := 0 ≤ i ∧ i ≤ len ∧ ∃ L', L'.length = len ∧ (∀ j, L'.getD j 0 < 256) ∧ OwnB wr base (.slice (some ⟨g, 0, none⟩) len cap2) L'
theorem LoI.step {base : Nat} {wr : World} {g cap2 len : Nat} {i : Int} (h : LoI base wr g cap2 len i) (hi : i < len) :
    ∃ v : Int, wr.cell? ⟨g, i.toNat, none⟩ = some (.int .u8 v) ∧ wr.frozen? ⟨g, i.toNat, none⟩ = false ∧ 0 ≤ v ∧ v ≤ 255 ∧ LoI base (wr.setCell ⟨g, i.toNat, none⟩ (.int .u8 ((v + 1) % 256))) g cap2 len (i + 1) := by
  obtain ⟨h0, h1, L', hl, hb, hO⟩ := h
  have hq := hb i.toNat
  refine ⟨_, own_cell hO hl h0 hi, own_free hO hl _, by omega, by omega, by omega, by omega, L'.set i.toNat ((L'.getD i.toNat 0 + 1) % 256), by rw [List.length_set]; exact hl, fun j => ?_, own_set hO hl _ _ (by omega)⟩
  rw [getD_put _ _ _ _ (by omega)]
  split
  · omega
  · exact hb j


end Go.Proofs.YtkfimfjjmdjbdaaGreatDoor
/- Walks: package blake: the digest. -/
namespace Go.Proofs.YtkfimfjjmdjbdaaGreatDoor
open Go.RowKit

set_option maxRecDepth 8000 in
set_option maxHeartbeats 2000000 in
theorem bSum (s : ByteArray) (hs : s.size ≤ 8) (ao : Option Addr) (len cap : Nat) (L : List Nat) (H : B8 len L) (w : World) (hS : SlI w.heap.size w ao cap L) (hG : RowsAt w) :
    Calls Tryz.prog 50 #[.string s, .slice ao len cap] w fun e w' => ∃ v, e = .returned (.tuple #[v, .nilIface]) ∧ OwnB w' w.heap.size v (Obol.sumL (strL s) L) ∧ Below w.heap.size w w' := by
  have hs' : (s.size : Int) ≤ 8 := by omega
  have R0 := Row.new w z8 116
  have hcp := copy_person (w.alloc (.cells z8 116)) w.heap.size s hs R0
  have hpl := Lib.hid (Obol.pad8_len (strL s))
  obtain ⟨p8, hp8⟩ : ∃ p, p = Obol.pad8 (strL s) := ⟨_, rfl⟩
  rw [← hp8] at hcp hpl
  have R1 := Lib.hid (setRow_row (cs' := u8s p8) R0)
  have B1 := Lib.hid (bSetRow (bAlloc (Below.refl w.heap.size w) (.cells z8 116)) (g := w.heap.size) (Nat.le_refl _) (u8s p8))
  replace hp8 := Lib.hid hp8
  clear R0
  go_enter Tryz.func50, Tryz.ntmps50
  go_wp2_with fail
  generalize (w.alloc (.cells z8 116)).setRow w.heap.size (u8s p8) = w1 at R1 B1 ⊢
  clear hcp
  have hx0 : bits .xor .u32 1779033703 16842784 = 1795745351 := by decide +kernel
  refine (bFirstL _).mono ?_
  rintro e w2 ⟨rfl, hb2⟩
  have R2 := Lib.hid (R1.out.below hb2 R1.out.lt)
  have B2 := Lib.hid (bThen B1.out hb2 B1.out.size)
  clear hb2 R1 B1
  go_wp2_with fail
  have R3 := Lib.hid (Row.new w2 (u32s (Obol.firstL.set 0 1795745351)) 96)
  change Code.wp _ _ _ _ (w2.alloc (.cells (u32s (Obol.firstL.set 0 1795745351)) 96))
  have RP := Lib.hid (R2.out.alloc (.cells (u32s (Obol.firstL.set 0 1795745351)) 96))
  have B3 := Lib.hid (bAlloc B2.out (.cells (u32s (Obol.firstL.set 0 1795745351)) 96))
  have hbp : w.heap.size < w2.heap.size := R2.out.lt
  generalize w2.alloc (.cells (u32s (Obol.firstL.set 0 1795745351)) 96) = w3 at R3 RP B3 ⊢
  generalize w2.heap.size = bh at R3 hbp ⊢
  clear R2 B2
  obtain ⟨bp, hbp0⟩ : ∃ b, w.heap.size = b := ⟨_, rfl⟩
  rw [hbp0] at RP hbp ⊢
  have W1 := (show Obol.W32 8 (Obol.firstL.set 0 1795745351) from first_w.set _ _ (by decide))
  have HP8 : B8 8 p8 := ⟨hpl.out, fun i => by
    rw [hp8.out]
    by_cases hi : i < 8
    · rw [Obol.pad8_get _ _ hi]
      exact strL_lt s i
    · rw [List.getD_eq_getElem?_getD, List.getElem?_eq_none (by rw [Obol.pad8_len]; omega)]
      decide⟩
  obtain ⟨x6, hx6⟩ : ∃ z : Int, ((Obol.wordAt p8 0 : Nat) : Int) = z := ⟨_, rfl⟩
  obtain ⟨x7, hx7⟩ : ∃ z : Int, ((Obol.wordAt p8 4 : Nat) : Int) = z := ⟨_, rfl⟩
  have cW6 := fun wq (R : Row wq bp (u8s p8) 116) => bWordAt bp 0 0 0 8 8 p8 8 HP8 rfl (by omega) (by omega) (by omega) wq R.bl
  have cW7 := fun wq (R : Row wq bp (u8s p8) 116) => bWordAt bp 0 4 4 4 4 p8 8 HP8 rfl (by omega) (by omega) (by omega) wq R.bl
  rw [hx6] at cW6
  rw [hx7] at cW7
  have l6 := Obol.wordAt_lt p8 HP8.lt 0
  have l7 := Obol.wordAt_lt p8 HP8.lt 4
  have y6 := xor_eq (p := 528734635) (P := 528734635) (q := x6) rfl hx6 (by decide) l6
  have y7 := xor_eq (p := 1541459225) (P := 1541459225) (q := x7) rfl hx7 (by decide) l7
  obtain ⟨z6, hz6⟩ : ∃ z : Int, bits .xor .u32 528734635 x6 = z := ⟨_, rfl⟩
  obtain ⟨z7, hz7⟩ : ∃ z : Int, bits .xor .u32 1541459225 x7 = z := ⟨_, rfl⟩
  rw [hz6] at y6
  rw [hz7] at y7
  replace cW6 := Lib.hid cW6
  replace cW7 := Lib.hid cW7
  have Y6 := Lib.hid y6
  have Y7 := Lib.hid y7
  clear y6 y7
  have x60 : 0 ≤ x6 := by omega
  have x70 : 0 ≤ x7 := by omega
  clear hx6 hx7
  have c6 : w3.cell? ⟨bh, 6, none⟩ = some (.int .u32 528734635) := R3.out.cell 6 rfl
  have f6 := R3.out.free 6
  go_cut [] (fun wc => Hid (Row wc bh (u32s ((Obol.firstL.set 0 1795745351).set 6 (528734635 ^^^ Obol.wordAt p8 0))) 96) ∧ Hid (Row wc bp (u8s p8) 116) ∧ Hid (Below w.heap.size w wc))
  case first =>
    go_region_with (go_at_call 51; refine (cW6.out _ (by repeat (first | exact RP.out | apply Row.drew | apply Row.drewN))).mono ?_; rintro e w' ⟨rfl, n, rfl⟩)
    all_goals (go_wp2_with fail; go_meet)
    all_goals exact ⟨Lib.hid (rowSet R3.out 6 _ Y6.out), Lib.hid (RP.out.other (by omega)), Lib.hid (bSet (bDrewN B3.out _) (by omega))⟩
  case' rest =>
    rename World => w4
    obtain ⟨R4, RP4, B4⟩ := hcut
    clear R3 RP B3 c6 f6
    have c7 : w4.cell? ⟨bh, 7, none⟩ = some (.int .u32 1541459225) := R4.out.cell 7 rfl
    have f7 := R4.out.free 7
    have hsl7 := fun W => slice_arr (P := Tryz.prog) 116 5 8 Tryz.underlying116 info8 bp 4 (by omega) W
  go_wp2_with fail
  go_cut [] (fun wc => Hid (Row wc bh (u32s (((Obol.firstL.set 0 1795745351).set 6 (528734635 ^^^ Obol.wordAt p8 0)).set 7 (1541459225 ^^^ Obol.wordAt p8 4))) 96) ∧ Hid (Below w.heap.size w wc))
  case first =>
    go_region_with (go_at_call 51; refine (cW7.out _ (by repeat (first | exact RP4.out | apply Row.drew | apply Row.drewN))).mono ?_; rintro e w' ⟨rfl, n, rfl⟩)
    all_goals (go_wp2_with fail; go_meet)
    all_goals exact ⟨Lib.hid (rowSet R4.out 7 _ Y7.out), Lib.hid (bSet (bDrewN B4.out _) (by omega))⟩
  case' rest =>
    rename World => w5
    obtain ⟨R5, B5⟩ := hcut
    have eI : ((Obol.firstL.set 0 1795745351).set 6 (528734635 ^^^ Obol.wordAt p8 0)).set 7 (1541459225 ^^^ Obol.wordAt p8 4) = Obol.stH (strL s) L 0 := by
      rw [hp8.out, Obol.word_pad _ _ (by omega), Obol.word_pad _ _ (by omega)]
      rfl
    rw [eI] at R5
    clear eI R4 RP4 B4 c7 f7 hsl7 Y6 Y7 hz6 hz7 cW6 cW7 hp8 HP8 l6 l7 x60 x70 W1 hx0
    obtain ⟨len0, hlen0⟩ : ∃ n, n = L.length := ⟨_, rfl⟩
    obtain rfl : len = len0 := by rw [hlen0]; exact H.len.symm
    have hcapL : len ≤ 9223372036854775807 := by have := hS.le; have := hS.cap; omega
    have HPP : Hid (∀ i, (strL s).getD i 0 < 256) := Lib.hid (strL_lt s)
    generalize hpp : strL s = pp at R5 HPP
    replace hpp := Lib.hid hpp
    have hS5 := Lib.hid hS
    have hG5 := Lib.hid hG
    have HL := Lib.hid H
    replace hlen0 := Lib.hid hlen0
    clear hS hG H hpl
    go_wp2_with fail
    go_loopw [1, 8, 9] (fun q1 q8 q9 wr => ∃ (j : Nat) (aj : Option Addr) (cj : Nat) (fl : Bool), q1 = .slice aj (L.drop (64 * j)).length cj ∧ q8 = .int .u64 ((min (64 * j) len : Nat) : Int) ∧ q9 = .bool fl ∧ Hid (BlkI len j fl) ∧ Hid (SlI w.heap.size w aj cj (L.drop (64 * j))) ∧ Hid (Row wr bh (u32s (Obol.stH pp L j)) 96) ∧ Hid (Below w.heap.size w wr)) (fun q1 _ q9 _ => slLen q1 + flag q9)
    case atStart =>
      refine ⟨0, ao, cap, false, ?_, by simp, rfl, Lib.hid ⟨by simp, Or.inl rfl⟩, ?_, R5, B5⟩
      · rw [Nat.mul_zero, List.drop_zero, ← hlen0.out]
      · rw [Nat.mul_zero, List.drop_zero]; exact hS5
    case round =>
      clear R5 B5 hS5
      obtain ⟨j, aj, cj, fl, rfl, rfl, rfl, HJ, HS, R, B⟩ := hrel
      cases fl
      · by_cases hR : 0 < (L.drop (64 * j)).length
        · obtain ⟨b, o, rfl, hbb, hbl0⟩ := HS.out.bl hR
          have hbl := hbl0.below B.out hbb
          have W8 := Lib.hid (stH_w HPP.out L j)
          obtain ⟨nI, hnI⟩ : ∃ z : Int, ((min 64 (L.drop (64 * j)).length : Nat) : Int) = z := ⟨_, rfl⟩
          obtain ⟨cI, hcI⟩ : ∃ z : Int, ((min (64 * j) len : Nat) : Int) = z := ⟨_, rfl⟩
          obtain ⟨c2, hc2⟩ : ∃ z : Int, ((min (64 * (j + 1)) len : Nat) : Int) = z := ⟨_, rfl⟩
          obtain ⟨m, hm⟩ : ∃ m, (L.drop (64 * j)).length - min 64 (L.drop (64 * j)).length = m := ⟨_, rfl⟩
          obtain ⟨f2, hf2⟩ : ∃ f, ((m : Int) == 0) = f := ⟨_, rfl⟩
          have hRl : (L.drop (64 * j)).length = len - 64 * j := by rw [List.length_drop, ← hlen0.out]
          have hsum : cI + nI = c2 := by omega
          have hn0 : 0 ≤ nI := by omega
          have hn1 : nI ≤ 64 := by omega
          have hc0 : 0 ≤ cI := by omega
          have hc1 : cI ≤ 9223372036854775807 := by omega
          have hd0 : 0 ≤ c2 := by omega
          have hd1 : c2 ≤ 9223372036854775807 := by omega
          have hff : f2 = decide (len ≤ 64 * (j + 1)) := by
            rw [← hf2, Bool.eq_iff_iff, beq_iff_eq, decide_eq_true_eq]
            omega
          have hcp := copy_block' (wr.alloc (.cells z64 117)) wr.heap.size (Row.new _ _ _) b o cj L j (hbl.below (bAlloc (Below.refl _ _) _) (hbl.lt hR))
          rw [hnI] at hcp
          have hsl := fun W => slice_rest (P := Tryz.prog) 26 5 Tryz.underlying26 info8 b o (L.drop (64 * j)).length cj (min 64 (L.drop (64 * j)).length) (Nat.min_le_right _ _) HS.out.le W
          rw [hnI, hm] at hsl
          obtain ⟨a2, ha2⟩ : ∃ a, (if cj = min 64 (L.drop (64 * j)).length then some (⟨b, o, none⟩ : Addr) else some ⟨b, o + min 64 (L.drop (64 * j)).length, none⟩) = a := ⟨_, rfl⟩
          obtain ⟨cc, hcc⟩ : ∃ c, cj - min 64 (L.drop (64 * j)).length = c := ⟨_, rfl⟩
          rw [ha2, hcc] at hsl
          have e64 : 64 * (j + 1) = 64 * j + 64 := by omega
          have hN2 : (L.drop (64 * (j + 1))).length = m := by rw [List.length_drop, ← hlen0.out]; omega
          have HJ2 : Hid (BlkI len (j + 1) f2) := Lib.hid ⟨by rw [hff]; simp, Or.inr (by omega)⟩
          have HS2 : Hid (SlI w.heap.size w a2 cc (L.drop (64 * (j + 1)))) := Lib.hid ⟨by rw [hN2, ← hcc]; have := HS.out.le; omega, by rw [← hcc]; have := HS.out.cap; omega, (fun h => by rw [← ha2] at h; split at h <;> cases h), (fun h => by
            rw [hN2] at h
            refine ⟨b, o + 64, ?_, hbb, fun q hq => ?_⟩
            · rw [← ha2, if_neg (by have := HS.out.le; omega), show min 64 (L.drop (64 * j)).length = 64 by omega]
            · rw [hN2] at hq
              have := hbl0 (64 + q) (by omega)
              rw [← Nat.add_assoc] at this
              rw [this, List.getD_eq_getElem?_getD, List.getD_eq_getElem?_getD, List.getElem?_drop, List.getElem?_drop, e64, Nat.add_assoc])⟩
          have hm2 : Hid (m < (L.drop (64 * j)).length) := Lib.hid (by omega)
          have eP : Obol.pressL (Obol.stH pp L j) (Obol.msgL (Obol.blockL L j) 0) c2.toNat f2 = Obol.stH pp L (j + 1) := by
            rw [Obol.msg_block, hff, show c2.toNat = min (64 * (j + 1)) len by omega, hlen0.out]
            rfl
          have cP := fun W hG => bPress (Obol.stH pp L j) (Obol.blockL L j) W8.out ⟨Obol.blockL_len L j, blockL_lt HL.out j⟩ c2 hd0 (by omega) f2 W hG
          rw [eP] at cP
          have hc2' := Lib.hid hc2
          have hN2' := Lib.hid hN2
          have hR2 := Lib.hid ((R.out.alloc (.cells z64 117)) |> fun r => setRow_keep (g := wr.heap.size) (cs' := u8s (Obol.blockL L j)) r (Nat.ne_of_lt R.out.lt))
          have hG2 := Lib.hid (setRow_row (cs' := u8s (Obol.blockL L j)) (Row.new wr z64 117))
          have hB2 := Lib.hid (bSetRow (bAlloc B.out (.cells z64 117)) (g := wr.heap.size) B.out.size (u8s (Obol.blockL L j)))
          have hBs := B.out.size
          have W9 := Lib.hid (stH_w HPP.out L (j + 1))
          have hbl64 : (u8s (Obol.blockL L j)).size = 64 := by rw [u8s_size, Obol.blockL_len]
          have hn8 : (u32s (Obol.stH pp L j)).size = 8 := by unfold u32s; simp [W8.out.len]
          have hn9 : (u32s (Obol.stH pp L (j + 1))).size = 8 := by unfold u32s; simp [W9.out.len]
          generalize Obol.stH pp L j = H8 at R cP hR2 hn8 ⊢
          generalize hH9 : Obol.stH pp L (j + 1) = H9 at cP hn9
          replace hH9 := Lib.hid hH9
          generalize Obol.blockL L j = BK at hcp cP hR2 hG2 hB2 hbl64
          have hu8 : Tryz.prog.underlying 96 = some (.array 8 88) := by kernel_rfl
          have hi8 : (Tryz.prog.info? 96).map (·.size) = some 8 := by kernel_rfl
          have hu64 : Tryz.prog.underlying 117 = some (.array 64 5) := by kernel_rfl
          have hi64 : (Tryz.prog.info? 117).map (·.size) = some 64 := by kernel_rfl
          have h19 : (u32s H9).toList.toArray.all (·.oneCell') = true := all_oneCell_toArray (by unfold u32s; simp; intro v _; rfl)
          replace cP := Lib.hid cP
          generalize (L.drop (64 * j)).length = RL at *
          rw [hcI]
          clear hff hm hN2 eP e64 hcc ha2 hcI hc2 hnI hbl hbl0 hR hRl HS HJ
          go_wp2_with (first
            | (refine wpList_load_mid rfl _ _ rfl bh 0 rfl (u32s H8).toList _ hR2.out.range hu8 rfl (by rw [hi8]; simp [hn8]) ?_)
            | (refine wpList_load_mid rfl _ _ rfl wr.heap.size 0 rfl (u8s BK).toList _ hG2.out.range hu64 rfl (by rw [hi64]; simp [hbl64]) ?_)
            | (go_at_call 78; refine (cP.out _ (hG5.out.below hB2.out)).mono ?_; rintro e w6 ⟨rfl, hb6⟩; have R6 := Lib.hid (hR2.out.below hb6 hR2.out.lt); have B6 := Lib.hid (bThen hB2.out hb6 hB2.out.size); have hth : w6.there bh 0 (u32s H9).toList.toArray.size := by (rw [Array.toArray_toList, hn9, ← hn8]; exact R6.out.there))
            | (refine wpList_store_mid rfl _ _ _ rfl bh 0 (u32s H9).toList.toArray rfl rfl (by assumption) (by rw [hi8]; simp [hn9]) h19 ?_))
          have R7 : Hid (Row (w6.setCells bh 0 (u32s H9).toList.toArray.toList) bh (u32s H9) 96) := Lib.hid (by rw [Array.toArray_toList]; exact R6.out.store (u32s H9) (by rw [hn9, hn8]))
          have B7 := Lib.hid (bSetMany (B := w.heap.size) (b := bh) (by omega) (u32s H9).toList.toArray.toList 0 _ B6.out)
          go_roundw
          case rel =>
            repeat apply Exists.intro
            exact ⟨⟨j + 1, a2, cc, f2, by rw [hN2'.out], by rw [hc2'.out], rfl, HJ2, HS2, by rw [hH9.out]; exact R7, B7⟩, rfl⟩
          case measure =>
            have h := hm2.out
            show m + flag (.bool f2) < RL + flag (.bool false)
            cases f2 <;> simp [flag] <;> omega
        · have hRl : (L.drop (64 * j)).length = len - 64 * j := by rw [List.length_drop, ← hlen0.out]
          have hj0 : j = 0 := by
            have h : ¬ (0 < j ∧ len ≤ 64 * j) := of_decide_eq_false HJ.out.1.symm
            omega
          subst hj0
          have hR0 : (L.drop (64 * 0)).length = 0 := by omega
          have hl0 : len = 0 := by omega
          have W8 := Lib.hid (stH_w HPP.out L 0)
          have W9 := Lib.hid (stH_w HPP.out L (0 + 1))
          obtain ⟨a2, ha2, hsl⟩ := slice_zero (P := Tryz.prog) 26 5 Tryz.underlying26 info8 aj cj
          have hcp := copy_nothing (wr.alloc (.cells z64 117)) wr.heap.size (Row.new _ _ _) aj cj (fun h => (HS.out.no h).2)
          have eB : Obol.blockL L 0 = zs 64 := block_nil L 0 (by rw [← hlen0.out]; omega)
          have eP : Obol.pressL (Obol.stH pp L 0) (Obol.msgL (zs 64) 0) (0 : Int).toNat true = Obol.stH pp L (0 + 1) := by
            have h := Obol.msg_block L 0
            rw [eB] at h
            rw [h]
            show _ = Obol.pressL (Obol.stH pp L 0) (Obol.msgL L (64 * 0)) (min (64 * (0 + 1)) L.length) (decide (L.length ≤ 64 * (0 + 1)))
            rw [← hlen0.out, hl0]
            rfl
          have cP := fun W hG => bPress (Obol.stH pp L 0) (zs 64) W8.out ⟨by simp, fun i => by have := (zs_w 64).lt i; simp [List.getD_eq_getElem?_getD, List.getElem?_replicate]; split <;> simp⟩ 0 (by omega) (by omega) true W hG
          rw [eP] at cP
          have hR2 := Lib.hid (R.out.alloc (.cells z64 117))
          have hG2 : Hid (Row (wr.alloc (.cells z64 117)) wr.heap.size (u8s (zs 64)) 117) := Lib.hid (Row.new wr z64 117)
          have hB2 := Lib.hid (bAlloc B.out (.cells z64 117))
          have hBs := B.out.size
          have hbl64 : (u8s (zs 64)).size = 64 := by rw [u8s_size]; simp
          have hn8 : (u32s (Obol.stH pp L 0)).size = 8 := by unfold u32s; simp [W8.out.len]
          have hn9 : (u32s (Obol.stH pp L (0 + 1))).size = 8 := by unfold u32s; simp [W9.out.len]
          have hc0 : ((min (64 * 0) len : Nat) : Int) = 0 := by omega
          have hJ2 : Hid (BlkI len (0 + 1) true) := Lib.hid ⟨by simp; omega, Or.inr (by omega)⟩
          have hS2 : Hid (SlI w.heap.size w a2 cj (L.drop (64 * (0 + 1)))) := Lib.hid ⟨by rw [List.length_drop, ← hlen0.out]; omega, HS.out.cap, (fun h => by
            have hq : (L.drop (64 * (0 + 1))).length = 0 := by rw [List.length_drop, ← hlen0.out]; omega
            exact ⟨hq, (HS.out.no (ha2 h)).2⟩), (fun h => by
            rw [List.length_drop, ← hlen0.out] at h
            omega)⟩
          rw [hR0, hc0]
          generalize Obol.stH pp L 0 = H8 at R cP hR2 hn8 ⊢
          generalize hH9 : Obol.stH pp L (0 + 1) = H9 at cP hn9
          replace hH9 := Lib.hid hH9
          generalize zs 64 = BK at cP hG2 hbl64
          have hu8 : Tryz.prog.underlying 96 = some (.array 8 88) := by kernel_rfl
          have hi8 : (Tryz.prog.info? 96).map (·.size) = some 8 := by kernel_rfl
          have hu64 : Tryz.prog.underlying 117 = some (.array 64 5) := by kernel_rfl
          have hi64 : (Tryz.prog.info? 117).map (·.size) = some 64 := by kernel_rfl
          have h19 : (u32s H9).toList.toArray.all (·.oneCell') = true := all_oneCell_toArray (by unfold u32s; simp; intro v _; rfl)
          replace cP := Lib.hid cP
          replace hl0 := Lib.hid hl0
          clear eP eB hRl hR HS HJ hR0 hc0
          go_wp2_with (first
            | (refine wpList_load_mid rfl _ _ rfl bh 0 rfl (u32s H8).toList _ hR2.out.range hu8 rfl (by rw [hi8]; simp [hn8]) ?_)
            | (refine wpList_load_mid rfl _ _ rfl wr.heap.size 0 rfl (u8s BK).toList _ hG2.out.range hu64 rfl (by rw [hi64]; simp [hbl64]) ?_)
            | (go_at_call 78; refine (cP.out _ (hG5.out.below hB2.out)).mono ?_; rintro e w6 ⟨rfl, hb6⟩; have R6 := Lib.hid (hR2.out.below hb6 hR2.out.lt); have B6 := Lib.hid (bThen hB2.out hb6 hB2.out.size); have hth : w6.there bh 0 (u32s H9).toList.toArray.size := by (rw [Array.toArray_toList, hn9, ← hn8]; exact R6.out.there))
            | (refine wpList_store_mid rfl _ _ _ rfl bh 0 (u32s H9).toList.toArray rfl rfl (by assumption) (by rw [hi8]; simp [hn9]) h19 ?_))
          have R7 : Hid (Row (w6.setCells bh 0 (u32s H9).toList.toArray.toList) bh (u32s H9) 96) := Lib.hid (by rw [Array.toArray_toList]; exact R6.out.store (u32s H9) (by rw [hn9, hn8]))
          have B7 := Lib.hid (bSetMany (B := w.heap.size) (b := bh) (by omega) (u32s H9).toList.toArray.toList 0 _ B6.out)
          go_roundw
          case rel =>
            repeat apply Exists.intro
            exact ⟨⟨0 + 1, a2, cj, true, by rw [List.length_drop, ← hlen0.out, hl0.out], by rw [hl0.out]; rfl, rfl, hJ2, hS2, by rw [hH9.out]; exact R7, B7⟩, rfl⟩
          case measure =>
            show 0 + flag (.bool true) < 0 + flag (.bool false)
            simp [flag]
      · obtain ⟨hj1, hj2⟩ := HJ.out
        have hj3 : 0 < j ∧ len ≤ 64 * j := of_decide_eq_true hj1.symm
        have hjn : Obol.nBlocks len = j := by
          unfold Obol.nBlocks
          split <;> omega
        have W8 := Lib.hid (stH_w HPP.out L j)
        have hF : Hid (Obol.sumL pp L = Obol.wordsB (Obol.stH pp L j)) := Lib.hid (by unfold Obol.sumL; rw [← hlen0.out, hjn])
        generalize Obol.stH pp L j = HF at R W8 hF
        have hu8 : Tryz.prog.underlying 96 = some (.array 8 88) := by kernel_rfl
        have hi8 : (Tryz.prog.info? 96).map (·.size) = some 8 := by kernel_rfl
        have hn8 : (u32s HF).size = 8 := by unfold u32s; simp [W8.out.len]
        clear hj1 hj2 hj3 hjn HJ HS
        go_wp2_with (refine wpList_load_mid rfl _ _ rfl bh 0 rfl (u32s HF).toList _ R.out.range hu8 rfl (by rw [hi8]; simp [hn8]) ?_)
        obtain ⟨ti, hti, htz, hts, htb⟩ := info_parts info8
        have hbpH := Lib.hid hbp0
        clear hbp0
        generalize (L.drop (64 * j)).length = RL at *
        go_loopw [12, 60] (fun q12 q60 wr => ∃ i : Nat, i ≤ 8 ∧ q60 = .int .i64 (i : Int) ∧ OwnB wr w.heap.size q12 (Obol.wordsB (HF.take i)) ∧ Below w.heap.size w wr) (fun _ q60 _ => (8 - intOf q60).toNat)
        case atStart => exact ⟨0, by omega, rfl, OwnB.nil _ _, B.out⟩
        case round =>
          clear R B
          obtain ⟨i, hi9, rfl, hO, hW⟩ := hrel
          have hsz := hW.size
          by_cases hi : i < 8
          · have hlen : (Obol.wordsB (HF.take i)).length = 4 * i := by rw [wordsB_len, List.length_take, W8.out.len]; omega
            obtain ⟨x, ex, x0, x1⟩ := word_at W8.out (i := (i : Int)) (by omega) (by omega)
            have hix := fun W => index_agg (P := Tryz.prog) 96 88 8 HF W8.out Tryz.underlying96 Tryz.underlying88 info32 (i := (i : Int)) (by omega) (by omega) W
            rw [ex] at hix
            have hi0 : (0 : Int) ≤ (i : Int) := by omega
            have hi8' : (i : Int) < 8 := by omega
            go_wp2_with (first
              | (at_builtin; refine wpList_append_own _ rfl _ _ 26 rfl w.heap.size 5 ti (.int .u8 0) 1 1 Tryz.underlying26 hti htz hts htb rfl (by decide) _ _ _ rfl (hO.alloc _) ⟨wr.heap.size, 0, none⟩ 4 4 [.int .u8 (x % 256), .int .u8 (x / 256 % 256), .int .u8 (x / 65536 % 256), .int .u8 (x / 16777216)] ?c0 rfl ?c1 ?c2 ?c3 ?c4 ?c5 ?_)
              | go_in)
            case c0 => rfl
            case c1 =>
              intro q u hq
              match q, hq with
              | 0, hq => simp at hq; subst hq; simp [Addr.add]
              | 1, hq => simp at hq; subst hq; simp [Addr.add]
              | 2, hq => simp at hq; subst hq; simp [Addr.add]
              | 3, hq => simp at hq; subst hq; simp [Addr.add]
            case c2 =>
              intro u hu
              simp at hu
              rcases hu with rfl | rfl | rfl | rfl <;> rfl
            case c3 => rw [hlen]; unfold maxLen; omega
            case c4 => rw [hlen]; omega
            case c5 => simp; omega
            · intro v' w1 hown' hgrow _
              have hrow := hO.lt
              have HO : OwnB w1 w.heap.size v' (Obol.wordsB (HF.take (i + 1))) := by
                have e := wordsB_take (l := HF) (i := i) (by rw [W8.out.len]; exact hi)
                have e5 : (Obol.wordsB (HF.take (i + 1))).length = 4 * i + 4 := by rw [wordsB_len, List.length_take, W8.out.len]; omega
                have eb : U8 (Obol.bytes4 (HF.getD i 0)) = [.int .u8 (x % 256), .int .u8 (x / 256 % 256), .int .u8 (x / 65536 % 256), .int .u8 (x / 16777216)] := by
                  have ex' : ((HF.getD i 0 : Nat) : Int) = x := by rw [← ex, Int.toNat_natCast]
                  generalize HF.getD i 0 = X at ex'
                  subst ex'
                  simp [U8, Obol.bytes4]
                  omega
                unfold OwnB
                rw [e5, e, U8, List.map_append]
                have e6 : List.map (fun (n : Nat) => Value.int .u8 (n : Int)) (Obol.bytes4 (HF.getD i 0)) = _ := eb
                rw [e6]
                exact hown'
              have HW : Below w.heap.size w w1 := (hW.alloc (by omega) _).grown hgrow (by simp; omega) (fun q hq => (hrow q hq).1)
              replace HO := Lib.hid HO
              replace HW := Lib.hid HW
              clear hown' hgrow hO hW hrow hlen hix ex
              go_wp2
              go_roundw
              case rel => exact ⟨i + 1, by omega, by simp, HO.out, HW.out⟩
              case measure => simp [intOf]; omega
          · obtain rfl : i = 8 := by omega
            have e8 : HF.take 8 = HF := List.take_of_length_le (by rw [W8.out.len]; decide)
            rw [e8, ← hF.out] at hO
            replace hO := Lib.hid hO
            replace hW := Lib.hid hW
            go_wp2_with fail
            go_ret2
            refine ⟨_, rfl, ?_, hW.out⟩
            rw [hpp.out]
            exact hO.out

end Go.Proofs.YtkfimfjjmdjbdaaGreatDoor
/- Walks: the head of the statements of layer 5; the law BlakePerson. -/
namespace Go.Proofs.YtkfimfjjmdjbdaaGreatDoor
open Go.RowKit

theorem sumL_len (p b : List Nat) (hp : ∀ i, p.getD i 0 < 256) : (Obol.sumL p b).length = 32 := by
  unfold Obol.sumL
  rw [wordsB_len, (stH_w hp b _).len]
theorem bytes4_lt (x : Nat) : ∀ y ∈ Obol.bytes4 x, y < 256 := by
  intro y hy
  simp only [Obol.bytes4, List.mem_cons, List.not_mem_nil, or_false] at hy
  omega
theorem wordsB_lt (l : List Nat) : ∀ y ∈ Obol.wordsB l, y < 256 := by
  intro y hy
  unfold Obol.wordsB at hy
  obtain ⟨x, _, h⟩ := List.mem_flatMap.1 hy
  exact bytes4_lt x y h
theorem sumL_b8 (p b : List Nat) (hp : ∀ i, p.getD i 0 < 256) : B8 32 (Obol.sumL p b) := by
  have h := B8.of (wordsB_lt (Obol.stH p b (Obol.nBlocks b.length)))
  have e := sumL_len p b hp
  unfold Obol.sumL at *
  exact ⟨e, h.lt⟩

/-- The digest as the callers take it. -/
theorem bSum2 (s : ByteArray) (hs : s.size ≤ 8) (ao : Option Addr) (len cap : Nat) (L : List Nat) (H : B8 len L) (w : World) (hS : SlI w.heap.size w ao cap L) (hG : RowsAt w) :
    Calls Tryz.prog 50 #[.string s, .slice ao len cap] w fun e w' => ∃ g cap2, e = .returned (.tuple #[.slice (some ⟨g, 0, none⟩) 32 cap2, .nilIface]) ∧ w.heap.size ≤ g ∧ OwnB w' w.heap.size (.slice (some ⟨g, 0, none⟩) 32 cap2) (Obol.sumL (strL s) L) ∧ Below w.heap.size w w' := by
  refine (bSum s hs ao len cap L H w hS hG).mono ?_
  rintro e w' ⟨v, rfl, hO, hB⟩
  have hl := sumL_len (strL s) L (strL_lt s)
  obtain ⟨g, cap2, cur, rfl, hg, -, -, -, -, -⟩ := hO.size (by rw [hl]; decide)
  rw [hl] at *
  exact ⟨g, cap2, rfl, hg, hO, hB⟩

/-- The world behind a conversion of a literal: the row's mark. -/
theorem conv_lit (W : World) (g n : Nat) (cs : Array Value) (R : Row W g cs 5) :
    (convert 26 26 (.slice (some ⟨g, 0, none⟩) n n)).run Tryz.prog W = .ok (.slice (some ⟨g, 0, none⟩) n n) (W.freeze ⟨g, cs.size, none⟩ 1) := by
  have hsh : W.shape? g = some (5, cs.size) := by
    have h : W.heap[g]? = some (.cells cs 5 (0, 0)) := R
    simp [World.shape?, h]
  simp [convert, run_underlying Tryz.underlying26, run_underlying Tryz.underlying5, markStringish, hsh, Result.andThen]
theorem bFreeze {B : Nat} {a w : World} (h : Below B a w) {g : Nat} (hg : B ≤ g) (o n : Nat) : Below B a (w.freeze ⟨g, o, none⟩ n) := by
  unfold World.freeze
  split
  · exact h
  · exact ⟨h.os, h.tape, h.output, by simpa using h.size, fun k hk => by
      rw [← h.block k hk]
      simp only [Array.getElem?_modify]
      rw [if_neg (by omega)]⟩
theorem cell_freeze (w : World) (a p : Addr) (n : Nat) : (w.freeze a n).cell? p = w.cell? p := by
  unfold World.freeze
  split
  · rfl
  · simp only [World.cell?, Array.getElem?_modify]
    by_cases hb : a.block = p.block
    · rw [if_pos hb]
      cases h : w.heap[p.block]? with
      | none => rfl
      | some o => cases o <;> rfl
    · rw [if_neg hb]
theorem size_freeze (w : World) (a : Addr) (n : Nat) : (w.freeze a n).heap.size = w.heap.size := by
  unfold World.freeze
  split
  · rfl
  · simp
abbrev abc : Array Value := #[.int .u8 97, .int .u8 98, .int .u8 99]
theorem strL_nil : strL { data := #[] } = [] := rfl

end Go.Proofs.YtkfimfjjmdjbdaaGreatDoor
/- Slices of the call's own: appended to, by one equation each; copies. -/
namespace Go.Proofs.YtkfimfjjmdjbdaaGreatDoor
open Go.RowKit

/-! an append whose run is known -/
theorem wp_appended {P : Program} {o : Oper} {a : Act} {w w' : World} {K : Act → World → Prop} {Q : Exit → Act → World → Prop} (s x : Operand) (t u : TypeId)
    (ho : o.op = .call { callee := .builtin .append, args := #[s, x], argTypes := #[t, u] }) (v y v' : Value) (hs : a.eval s = v) (hx : a.eval x = y)
    (hr : ∀ ty, (Builtin.append_ #[t, u] ty #[v, y]).run P w = .ok v' w') (h : K (a.put o.dst v') w') : o.wp P a w K Q := by
  unfold Oper.wp execOp
  simp only [ho, resolve, invoke, builtin, Sem.run_bind, Sem.run_pure, Result.andThen_ok, List.map_toArray, List.map_cons, List.map_nil, hs, hx, hr]
  exact h
theorem wpList_appended {P : Program} {ops : Array Oper} {rest : List Oper} {o : Oper} {a : Act} {w w' : World} {Q : Exit → Act → World → Prop} (hgd : o.guard = none) (s x : Operand) (t u : TypeId)
    (ho : o.op = .call { callee := .builtin .append, args := #[s, x], argTypes := #[t, u] }) (v y v' : Value) (hs : a.eval s = v) (hx : a.eval x = y)
    (hr : ∀ ty, (Builtin.append_ #[t, u] ty #[v, y]).run P w = .ok v' w') (h : wpList P ops Q rest (a.put o.dst v') w') : wpList P ops Q (o :: rest) a w :=
  wpList_plain hgd fun _ hK => wp_appended s x t u ho v y v' hs hx hr (hK _ _ h)

/-- Bytes appended to a slice of the call's own. -/
theorem append_ownB (W : World) (base : Nat) (v : Value) (L M : List Nat) (hown : OwnB W base v L) (ad : Addr) (m c : Nat) (hm : M.length = m) (hnews : ∀ j, j < M.length → W.cell? (ad.add j) = some (.int .u8 ((M.getD j 0 : Nat) : Int)))
    (hlen : L.length + M.length ≤ 140737488355328) (hbase : base ≤ W.heap.size) :
    ∃ v' W', (∀ ty, (Builtin.append_ #[26, 26] ty #[v, .slice (some ad) m c]).run Tryz.prog W = .ok v' W') ∧ OwnB W' base v' (L ++ M) ∧ Below base W W' ∧ W.grownBy W' v.ownBlock ∧ (v' = .slice none 0 0 ↔ v = .slice none 0 0 ∧ m = 0) := by
  subst hm
  obtain ⟨ti, hti, htz, hts, htb⟩ := info_parts info8
  obtain ⟨v', W', hr, ho, hg, hn⟩ := run_append_own W base 26 0 5 ti (.int .u8 0) 1 1 Tryz.underlying26 hti htz hts htb rfl (by decide) v L.length (U8 L) hown ad M.length c (U8 M) (by simp)
    (fun j u hu => by
      have hj : j < M.length := by have := (List.getElem?_eq_some_iff.1 hu).1; simpa using this
      rw [hnews j hj]
      rw [List.getElem?_map, List.getElem?_eq_getElem hj] at hu
      rw [List.getD_eq_getElem?_getD, List.getElem?_eq_getElem hj]
      simpa using hu) (fun u hu => by obtain ⟨x, _, rfl⟩ := List.mem_map.1 hu; rfl) (by unfold maxLen; omega) (by omega) hbase
  refine ⟨v', W', fun ty => hr, ?_, ?_, hg, hn⟩
  · unfold OwnB
    rw [List.length_append, show U8 (L ++ M) = U8 L ++ U8 M by simp [U8]]
    exact ho
  · exact (Below.refl _ _).grown hg (by omega) (fun q hq => (hown.lt q hq).1)
theorem append_none (W : World) (base : Nat) (v : Value) (L : List Nat) (hown : OwnB W base v L) :
    ∀ ty, (Builtin.append_ #[26, 26] ty #[v, .slice none 0 0]).run Tryz.prog W = .ok v W := by
  obtain ⟨ti, hti, htz, hts, htb⟩ := info_parts info8
  intro ty
  exact run_append_owned_none (P := Tryz.prog) W base 26 ty 5 ti 1 Tryz.underlying26 hti v L.length (U8 L) hown
/-- Bytes that came in appended to a slice of the call's own. -/
theorem append_ownS (W : World) (base : Nat) (v : Value) (L M : List Nat) (hown : OwnB W base v L) (ao : Option Addr) (m c : Nat) (hm : M.length = m) (hn : ao = none → m = 0 ∧ c = 0) (hc : 0 < m → ∃ b o, ao = some ⟨b, o, none⟩ ∧ BL W b o M)
    (hlen : L.length + M.length ≤ 140737488355328) (hbase : base ≤ W.heap.size) :
    ∃ v' W', (∀ ty, (Builtin.append_ #[26, 26] ty #[v, .slice ao m c]).run Tryz.prog W = .ok v' W') ∧ OwnB W' base v' (L ++ M) ∧ Below base W W' ∧ W.grownBy W' v.ownBlock ∧ (v' = .slice none 0 0 ↔ v = .slice none 0 0 ∧ m = 0) := by
  cases ao with
  | none =>
    obtain ⟨rfl, rfl⟩ := hn rfl
    obtain rfl : M = [] := List.length_eq_zero_iff.1 hm
    exact ⟨v, W, append_none W base v L hown, by rw [List.append_nil]; exact hown, Below.refl _ _, ⟨rfl, rfl, rfl, Nat.le_refl _, fun _ _ _ => rfl⟩, by simp⟩
  | some ad =>
    refine append_ownB W base v L M hown ad m c hm (fun j hj => ?_) hlen hbase
    obtain ⟨b, o, h1, h2⟩ := hc (by omega)
    obtain rfl := Option.some.inj h1
    rw [addB]
    exact h2 j hj
/-- 'append([]byte{}, b...)' -/
theorem append_copy (W : World) (ao : Option Addr) (len cap : Nat) (L : List Nat) (H : L.length = len) (hl : len ≤ 100000000) (hn : ao = none → len = 0 ∧ cap = 0) (hc : 0 < len → ∃ b o, ao = some ⟨b, o, none⟩ ∧ BL W b o L) :
    ∃ g cap2 W', (∀ ty, (Builtin.append_ #[26, 26] ty #[.slice (some ⟨W.heap.size, 0, none⟩) 0 0, .slice ao len cap]).run Tryz.prog (W.alloc (.cells #[] 5)) = .ok (.slice (some ⟨g, 0, none⟩) len cap2) W') ∧
      OwnB W' W.heap.size (.slice (some ⟨g, 0, none⟩) len cap2) L ∧ Below W.heap.size W W' := by
  obtain ⟨v', W', h1, h2, h3, h4, h5⟩ := append_ownS (W.alloc (.cells #[] 5)) W.heap.size _ [] L (own_empty W W.heap.size (Nat.le_refl _)) ao len cap H hn (fun h => by
      obtain ⟨b, o, e, hb⟩ := hc h
      exact ⟨b, o, e, hb.below (B := W.heap.size) (bAlloc (Below.refl _ _) _) (hb.lt (by omega))⟩) (by simp; omega) (by simp)
  rw [List.nil_append] at h2
  obtain ⟨g, cap2, rfl⟩ := own_shape h2 (fun h => by cases (h5.1 h).1)
  rw [H] at h1 h2
  exact ⟨g, cap2, W', h1, h2, ((Below.refl W.heap.size W).alloc (Nat.le_refl _) _).trans h3⟩
theorem OwnB.base {w : World} {base base' : Nat} {v : Value} {L : List Nat} (h : OwnB w base v L) (hb : base' ≤ base) : OwnB w base' v L := by
  refine ⟨h.1, ?_⟩
  rcases h.2 with h | ⟨g, cap, cur, h1, h2, h3⟩
  · exact .inl h
  · exact .inr ⟨g, cap, cur, h1, by omega, h3⟩

end Go.Proofs.YtkfimfjjmdjbdaaGreatDoor
/- Whole blocks that are held together, and what lies below a bound. -/
namespace Go.Proofs.YtkfimfjjmdjbdaaGreatDoor
open Go.RowKit

def HR (w w1 : World) (rs : List (Nat × Array Value × TypeId)) : Prop := (∀ r ∈ rs, Row w1 r.1 r.2.1 r.2.2) ∧ Below w.heap.size w w1
section
variable {w w1 w2 : World} {rs : List (Nat × Array Value × TypeId)}
theorem HR.refl (w : World) : HR w w [] := ⟨(fun r hr => by cases hr), Below.refl _ _⟩
theorem HR.drew (h : HR w w1 rs) : HR w w1.drew rs := ⟨fun r hr => (h.1 r hr).drew, bDrew h.2⟩
theorem HR.drewN (h : HR w w1 rs) (n : Nat) : HR w (w1.drewN n) rs := ⟨fun r hr => (h.1 r hr).drewN n, bDrewN h.2 n⟩
theorem HR.like (h : HR w w1 rs) (h1 : w2.heap = w1.heap) (h2 : w2.os = w1.os) (h3 : w2.tape = w1.tape) (h4 : w2.output = w1.output) : HR w w2 rs :=
  ⟨fun r hr => (congrArg (fun a : Array Obj => a[r.1]?) h1).trans (h.1 r hr), ⟨h2.trans h.2.os, h3.trans h.2.tape, h4.trans h.2.output, by rw [h1]; exact h.2.size, fun k hk => (congrArg (fun a : Array Obj => a[k]?) h1).trans (h.2.block k hk)⟩⟩
theorem HR.sub {qs : List (Nat × Array Value × TypeId)} (h : HR w w1 rs) (hs : ∀ r ∈ qs, r ∈ rs) : HR w w1 qs := ⟨fun r hr => h.1 r (hs r hr), h.2⟩
theorem HR.next (h : HR w w1 rs) (hb : Below w1.heap.size w1 w2) : HR w w2 rs := ⟨fun r hr => (h.1 r hr).below hb (h.1 r hr).lt, bThen h.2 hb h.2.size⟩
theorem HR.alloc (h : HR w w1 rs) (o : Obj) : HR w (w1.alloc o) rs := ⟨fun r hr => (h.1 r hr).alloc o, bAlloc h.2 o⟩
theorem HR.new (h : HR w w1 rs) (cs : Array Value) (t : TypeId) : HR w (w1.alloc (.cells cs t)) ((w1.heap.size, cs, t) :: rs) :=
  ⟨fun r hr => by
    rcases List.mem_cons.1 hr with rfl | hr
    · exact Row.new _ _ _
    · exact (h.1 r hr).alloc _, bAlloc h.2 _⟩
theorem HR.row (h : HR w w1 rs) {b : Nat} {cs : Array Value} {t : TypeId} (hr : (b, cs, t) ∈ rs) : Row w1 b cs t := h.1 _ hr
theorem HR.cell (h : HR w w1 rs) {b : Nat} {cs : Array Value} {t : TypeId} (hr : (b, cs, t) ∈ rs) (i : Nat) {v : Value} (hv : cs[i]? = some v) : w1.cell? ⟨b, i, none⟩ = some v := (h.1 _ hr).cell i hv
theorem HR.free (h : HR w w1 rs) {b : Nat} {cs : Array Value} {t : TypeId} (hr : (b, cs, t) ∈ rs) (i : Nat) : w1.frozen? ⟨b, i, none⟩ = false := (h.1 _ hr).free i
theorem HR.lt (h : HR w w1 rs) {b : Nat} {cs : Array Value} {t : TypeId} (hr : (b, cs, t) ∈ rs) : b < w1.heap.size := (h.1 _ hr).lt
theorem HR.tail {r : Nat × Array Value × TypeId} (h : HR w w1 (r :: rs)) : HR w w1 rs := ⟨fun q hq => h.1 q (List.mem_cons_of_mem _ hq), h.2⟩
theorem HR.add (h : HR w w1 rs) {b : Nat} {cs : Array Value} {t : TypeId} (hr : Row w1 b cs t) : HR w w1 ((b, cs, t) :: rs) := ⟨fun q hq => by
  rcases List.mem_cons.1 hq with rfl | hq
  · exact hr
  · exact h.1 q hq, h.2⟩
theorem HR.far (h : HR w w1 rs) : (∀ r ∈ rs, r.1 ≠ w1.heap.size) ∧ w.heap.size ≤ w1.heap.size := ⟨fun r hr => Nat.ne_of_lt (h.1 r hr).lt, h.2.size⟩
theorem HR.other (h : HR w w1 rs) {D o : Nat} {v : Value} (hne : ∀ r ∈ rs, r.1 ≠ D) (hD : w.heap.size ≤ D) : HR w (w1.setCell ⟨D, o, none⟩ v) rs := ⟨fun r hr => (h.1 r hr).other (hne r hr), bSet h.2 hD⟩
theorem HR.put {D : Nat} {cs : Array Value} {t : TypeId} (h : HR w w1 ((D, cs, t) :: rs)) (hne : ∀ r ∈ rs, r.1 ≠ D) (hD : w.heap.size ≤ D) (o : Nat) (v : Value) : HR w (w1.setCell ⟨D, o, none⟩ v) ((D, cs.setIfInBounds o v, t) :: rs) :=
  (h.tail.other hne hD).add ((h.1 _ (List.mem_cons_self ..)).set o v)
end

end Go.Proofs.YtkfimfjjmdjbdaaGreatDoor
/- Walks: package tx: a number's bytes, a point's. -/
namespace Go.Proofs.YtkfimfjjmdjbdaaGreatDoor
open Go.RowKit

/-- Every block that holds no bytes stays. -/
def KeepT (w w' : World) : Prop := ∀ (k : Nat) (cs : Array Value) (t : TypeId), t ≠ 5 → Row w k cs t → Row w' k cs t
theorem KeepT.refl (w : World) : KeepT w w := fun _ _ _ _ h => h
theorem KeepT.trans {w w' w'' : World} (h : KeepT w w') (g : KeepT w' w'') : KeepT w w'' := fun k cs t ht hr => g k cs t ht (h k cs t ht hr)
theorem KeepT.below {w w' : World} (h : Below w.heap.size w w') : KeepT w w' := fun _ _ _ _ hr => hr.below h hr.lt
theorem KeepT.drewN (w : World) (n : Nat) : KeepT w (w.drewN n) := fun _ _ _ _ hr => hr.drewN n
theorem KeepT.alloc (w : World) (o : Obj) : KeepT w (w.alloc o) := fun _ _ _ _ hr => hr.alloc o
theorem KeepT.grown {W W' : World} {base : Nat} {v : Value} {L : List Nat} (hO : OwnB W base v L) (hg : W.grownBy W' v.ownBlock) : KeepT W W' := fun k cs t ht hr => by
  refine (hg.block k hr.lt (fun e => ht ?_)).trans hr
  rcases hO.2 with ⟨rfl, _⟩ | ⟨g, cap, cur, rfl, _, hb, _⟩
  · cases e
  · have : g = k := (by simpa [Value.ownBlock] using e : k = g).symm
    subst this
    have h2 : W.heap[g]? = some (.cells cs t) := hr
    rw [hb] at h2
    injection h2 with h3
    injection h3 with _ h4
    exact h4.symm
theorem HR.keep {w w1 w2 : World} {rs : List (Nat × Array Value × TypeId)} (h : HR w w1 rs) (hk : KeepT w1 w2) (hb : Below w.heap.size w1 w2) (ht : ∀ r ∈ rs, r.2.2 ≠ 5) : HR w w2 rs :=
  ⟨fun r hr => hk _ _ _ (ht r hr) (h.1 r hr), h.2.trans hb⟩

set_option maxRecDepth 8000 in
set_option maxHeartbeats 1000000 in
theorem txPut (base : Nat) (v : Value) (L : List Nat) (k : Int) (hk0 : 0 ≤ k) (hk1 : k ≤ 18446744073709551615) (hL : L.length ≤ 1000) (w : World) (hB : base ≤ w.heap.size) (hown : OwnB w base v L) :
    Calls Tryz.prog 39 #[v, .int .u64 k] w fun e w' => ∃ v', e = .returned v' ∧ OwnB w' base v' (L ++ Obol.be8 k.toNat) ∧ Below base w w' ∧ KeepT w w' := by
  obtain ⟨ti, hti, htz, hts, htb⟩ := info_parts info8
  go_enter Tryz.func39, Tryz.ntmps39
  go_wp2_with fail
  go_loopw [0, 5] (fun q1 q2 wr => ∃ j : Nat, j ≤ 8 ∧ q2 = .int .i64 (56 - 8 * (j : Int)) ∧ OwnB wr base q1 (L ++ (Obol.be8 k.toNat).take j) ∧ Below base w wr ∧ Hid (KeepT w wr)) (fun _ q2 _ => (8 + intOf q2).toNat)
  case atStart => exact ⟨0, by omega, rfl, by simpa using hown, Below.refl _ _, Lib.hid (KeepT.refl w)⟩
  case round =>
    obtain ⟨j, hj, rfl, hO, hW, hK⟩ := hrel
    have hsz := hW.size
    by_cases hj8 : j < 8
    · have hlen : (L ++ (Obol.be8 k.toNat).take j).length = L.length + j := by simp [Obol.be8]; omega
      go_wp2_with (first
        | (at_builtin; refine wpList_append_own _ rfl _ _ 26 rfl base 5 ti (.int .u8 0) 1 1 Tryz.underlying26 hti htz hts htb rfl (by decide) _ _ _ rfl (hO.alloc _) ⟨wr.heap.size, 0, none⟩ 1 1 [.int .u8 (k / 2 ^ (56 - 8 * j) % 256)] ?c0 rfl ?c1 ?c2 ?c3 ?c4 ?c5 ?_)
        | go_in)
      case c0 => rfl
      case c1 =>
        intro q u hq
        match q, hq with
        | 0, hq => simp at hq; subst hq; simp [Addr.add]
      case c2 => intro u hu; simp at hu; subst hu; rfl
      case c3 => rw [hlen]; unfold maxLen; omega
      case c4 => rw [hlen]; omega
      case c5 => simp; omega
      · intro v' w1 hown' hgrow _
        have hrow := hO.lt
        have HO : OwnB w1 base v' (L ++ (Obol.be8 k.toNat).take (j + 1)) := by
          have e : L ++ (Obol.be8 k.toNat).take (j + 1) = (L ++ (Obol.be8 k.toNat).take j) ++ [k.toNat / 2 ^ (56 - 8 * j) % 256] := by rw [take_be _ _ hj8, List.append_assoc]
          have e2 : Value.int .u8 (k / 2 ^ (56 - 8 * j) % 256) = Value.int .u8 ((k.toNat / 2 ^ (56 - 8 * j) % 256 : Nat) : Int) := by
            obtain ⟨K, rfl⟩ := Int.eq_ofNat_of_zero_le hk0
            simp
          have e5 : ((L ++ (Obol.be8 k.toNat).take j) ++ [k.toNat / 2 ^ (56 - 8 * j) % 256]).length = L.length + j + 1 := by rw [List.length_append, hlen]; rfl
          unfold OwnB
          rw [e, e5]
          rw [e2] at hown'
          simpa [U8] using hown'
        have HW : Below base w w1 := (hW.alloc (by omega) _).grown hgrow (by simp; omega) (fun q hq => (hrow q hq).1)
        have HK := Lib.hid ((hK.out.trans (KeepT.alloc wr _)).trans (KeepT.grown (hO.alloc _) hgrow))
        replace HO := Lib.hid HO
        replace HW := Lib.hid HW
        clear hown' hgrow hO hW hrow hlen hK
        go_wp2
        go_roundw
        case rel => exact ⟨j + 1, by omega, by simp; omega, HO.out, HW.out, HK⟩
        case measure => simp [intOf]; omega
    · obtain rfl : j = 8 := by omega
      go_wp2_with fail
      go_ret
      exact ⟨_, rfl, hO, hW, hK.out⟩

set_option maxRecDepth 8000 in
set_option maxHeartbeats 1000000 in
theorem txPoint (base : Nat) (v : Value) (L : List Nat) (X Y : Int) (hX : 0 ≤ X) (hY : 0 ≤ Y) (hn : Obol.isN (X.toNat, Y.toNat) = true) (hL : L.length ≤ 1000) (w : World) (hB : base ≤ w.heap.size) (hown : OwnB w base v L) :
    Calls Tryz.prog 40 #[v, edV X Y] w fun e w' => ∃ v', e = .returned v' ∧ OwnB w' base v' (L ++ Obol.be8 (Obol.codeN (X.toNat, Y.toNat))) ∧ Below base w w' ∧ KeepT w w' := by
  have cW := Lib.hid (fun w => eWrite X Y hX hY hn w)
  have O := Lib.hid hown
  have R := Row.new w #[.int .u64 X, .int .u64 Y] 24
  have c0 := R.cell 0 rfl
  have c1 := R.cell 1 rfl
  have B := Lib.hid (bAlloc (Below.refl _ w) (.cells #[.int .u64 X, .int .u64 Y] 24))
  clear R hown hn
  go_enter Tryz.func40, Tryz.ntmps40
  go_wp2_with fail
  refine (cW.out _).mono ?_
  rintro e w1 ⟨u, rfl, hO, hb⟩
  have B1 := bThen B.out hb B.out.size
  obtain ⟨g, cap, cur, rfl, hge, hr, hle, hm, hsz, htk⟩ := hO.size (by show 0 < 8; decide)
  have O1 := O.out.below B1
  have hbl := hO.bl
  obtain ⟨v2, w2, hap, hO2, hb2, hg2, -⟩ := append_ownB w1 base v L (Obol.be8 (Obol.codeN (X.toNat, Y.toNat))) O1 ⟨g, 0, none⟩ 8 cap rfl (fun k hk => by rw [addB]; exact hbl k hk) (by show L.length + 8 ≤ 140737488355328; omega) (Nat.le_trans hB B1.size)
  have K2 := Lib.hid ((KeepT.below B1).trans (KeepT.grown O1 hg2))
  have O2 := Lib.hid hO2
  have B2 := Lib.hid ((B1.mono hB).trans hb2)
  clear hO hb hge hr hle hm hsz htk O1 hbl hO2 hb2 B1 hg2
  go_wp2_with (at_builtin; refine wpList_appended rfl _ _ _ _ rfl _ _ _ rfl rfl hap ?_)
  go_ret
  exact ⟨_, rfl, O2.out, B2.out, K2.out⟩

end Go.Proofs.YtkfimfjjmdjbdaaGreatDoor
/- The field of P elements. -/
namespace Obol

theorem P_pos : 0 < P := by decide +kernel
instance : NeZero P := ⟨by decide +kernel⟩
abbrev Fp := Fin P

def fp (a : Nat) : Fp := ⟨a % P, Nat.mod_lt _ P_pos⟩
theorem fp_val (a : Nat) : (fp a).val = a % P := rfl
theorem fp_of (a : Fp) : fp a.val = a := Fin.ext (Nat.mod_eq_of_lt a.isLt)
theorem pval_mul (a b : Fp) : (a * b).val = a.val * b.val % P := rfl
theorem pval_add (a b : Fp) : (a + b).val = (a.val + b.val) % P := rfl
theorem pval_sub (a b : Fp) : (a - b).val = (P - b.val + a.val) % P := rfl
theorem pval_neg (a : Fp) : (-a).val = (P - a.val) % P := rfl
theorem pval_num (n : Nat) : (OfNat.ofNat n : Fp).val = n % P := rfl
theorem pval_zero : (0 : Fp).val = 0 := by rw [pval_num]; decide +kernel
theorem pval_one : (1 : Fp).val = 1 := by rw [pval_num]; decide +kernel
theorem pval_eq_zero {a : Fp} : a = 0 ↔ a.val = 0 := by
  constructor
  · intro h; rw [h, pval_zero]
  · intro h; exact Fin.ext (by rw [h, pval_zero])

def fpinv (a : Fp) : Fp := ⟨powm P 64 a.val (P - 2), powm_lt _ _ _ _ P_pos⟩
theorem fpinv_val (a : Fp) : (fpinv a).val = a.val ^ (P - 2) % P := powm_eq P 64 a.val (P - 2) (by decide +kernel)

theorem fp_dom (a b : Fp) (h : a * b = 0) : a = 0 ∨ b = 0 := by
  rw [pval_eq_zero, pval_mul] at h
  refine Classical.byContradiction fun hn => ?_
  have hn := not_or.1 hn
  refine rootP.nonzero (a := a.val) (b := b.val) ?_ ?_ h
  · rw [Nat.mod_eq_of_lt a.isLt]; exact fun e => hn.1 (pval_eq_zero.2 e)
  · rw [Nat.mod_eq_of_lt b.isLt]; exact fun e => hn.2 (pval_eq_zero.2 e)

theorem fpinv_mul (a : Fp) (h : a ≠ 0) : a * fpinv a = 1 := by
  refine Fin.ext ?_
  rw [pval_mul, fpinv_val, pval_one, Nat.mul_mod, Nat.mod_mod, ← Nat.mul_mod, Nat.mul_comm, ← Nat.pow_succ]
  have := rootP.fermat a.val (by rw [Nat.mod_eq_of_lt a.isLt]; exact fun e => h (pval_eq_zero.2 e))
  rwa [show (P - 2).succ = P - 1 by decide +kernel]

end Obol
/- Plain: points X / Z Z, Y / Z Z Z of y y = x x x + x: doubling and adding. -/
namespace Obol

/-- The double of a point that is not its own opposite. -/
theorem jac_twice {x y l X Y Z : Fp} (hX : X = x * (Z * Z)) (hY : Y = y * (Z * Z * Z)) (hl : l * (y + y) = 3 * (x * x) + 1) :
    (3 * (X * X) + Z * Z * (Z * Z)) * (3 * (X * X) + Z * Z * (Z * Z)) - (4 * (X * (Y * Y)) + 4 * (X * (Y * Y))) = (l * l - (x + x)) * ((2 * (Y * Z)) * (2 * (Y * Z))) := by
  subst hX hY
  have h2 : 3 * (x * (Z * Z) * (x * (Z * Z))) + Z * Z * (Z * Z) = (l * (y + y)) * (Z * Z * (Z * Z)) := by rw [hl]; grind
  rw [h2]
  grind
theorem jac_twice_y {x y l X Y Z x' : Fp} (hX : X = x * (Z * Z)) (hY : Y = y * (Z * Z * Z)) (hl : l * (y + y) = 3 * (x * x) + 1) (hx : x' = (l * l - (x + x)) * ((2 * (Y * Z)) * (2 * (Y * Z)))) :
    (3 * (X * X) + Z * Z * (Z * Z)) * (4 * (X * (Y * Y)) - x') - 8 * (Y * Y * (Y * Y)) = (l * (x - (l * l - (x + x))) - y) * ((2 * (Y * Z)) * (2 * (Y * Z)) * (2 * (Y * Z))) := by
  subst hX hY hx
  have h2 : 3 * (x * (Z * Z) * (x * (Z * Z))) + Z * Z * (Z * Z) = (l * (y + y)) * (Z * Z * (Z * Z)) := by rw [hl]; grind
  rw [h2]
  grind
/-- A point and another one, of another x. -/
theorem jac_more {x y bx bY l X Y Z h r : Fp} (hX : X = x * (Z * Z)) (hY : Y = y * (Z * Z * Z)) (hl : l * (bx - x) = bY - y) (hh : h = bx * (Z * Z) - X) (hr : r = bY * (Z * Z * Z) - Y) :
    r * r - h * (h * h) - (X * (h * h) + X * (h * h)) = (l * l - (x + bx)) * ((h * Z) * (h * Z)) := by
  have e1 : h = (bx - x) * (Z * Z) := by subst hh hX; grind
  have e2 : r = l * (bx - x) * (Z * Z * Z) := by rw [hl]; subst hr hY; grind
  clear hh hr
  subst e1 e2 hX
  grind
theorem jac_more_y {x y bx bY l X Y Z h r x' : Fp} (hX : X = x * (Z * Z)) (hY : Y = y * (Z * Z * Z)) (hl : l * (bx - x) = bY - y) (hh : h = bx * (Z * Z) - X) (hr : r = bY * (Z * Z * Z) - Y) (hx : x' = (l * l - (x + bx)) * ((h * Z) * (h * Z))) :
    r * (X * (h * h) - x') - Y * (h * (h * h)) = (l * (x - (l * l - (x + bx))) - y) * ((h * Z) * (h * Z) * (h * Z)) := by
  have e1 : h = (bx - x) * (Z * Z) := by subst hh hX; grind
  have e2 : r = l * (bx - x) * (Z * Z * Z) := by rw [hl]; subst hr hY; grind
  clear hh hr
  subst hx e1 e2 hX hY
  grind
/-- The sum of two points of the curve is one of it. -/
theorem on_sum {x y bx bY l : Fp} (h1 : y * y = x * x * x + x) (h2 : bY * bY = bx * bx * bx + bx) (hne : bx - x ≠ 0) (hl : l * (bx - x) = bY - y) :
    (l * (x - (l * l - (x + bx))) - y) * (l * (x - (l * l - (x + bx))) - y) = (l * l - (x + bx)) * (l * l - (x + bx)) * (l * l - (x + bx)) + (l * l - (x + bx)) := by
  have key : (bx - x) * ((l * (x - (l * l - (x + bx))) - y) * (l * (x - (l * l - (x + bx))) - y) - ((l * l - (x + bx)) * (l * l - (x + bx)) * (l * l - (x + bx)) + (l * l - (x + bx)))) = 0 := by
    have hb : bY = y + l * (bx - x) := by rw [hl]; grind
    subst hb
    grind
  rcases fp_dom _ _ key with h | h
  · exact (hne h).elim
  · grind
/-- The double of a point of the curve is one of it. -/
theorem on_double {x y l : Fp} (h1 : y * y = x * x * x + x) (hne : y + y ≠ 0) (hl : l * (y + y) = 3 * (x * x) + 1) :
    (l * (x - (l * l - (x + x))) - y) * (l * (x - (l * l - (x + x))) - y) = (l * l - (x + x)) * (l * l - (x + x)) * (l * l - (x + x)) + (l * l - (x + x)) := by
  have key : (y + y) * ((l * (x - (l * l - (x + x))) - y) * (l * (x - (l * l - (x + x))) - y) - ((l * l - (x + x)) * (l * l - (x + x)) * (l * l - (x + x)) + (l * l - (x + x)))) = 0 := by
    grind
  rcases fp_dom _ _ key with h | h
  · exact (hne h).elim
  · grind
/-- Two points of one x are one point, or opposite. -/
theorem on_same {x y bY : Fp} (h1 : y * y = x * x * x + x) (h2 : bY * bY = x * x * x + x) : bY = y ∨ y + bY = 0 := by
  have key : (bY - y) * (y + bY) = 0 := by grind
  rcases fp_dom _ _ key with h | h
  · exact .inl (by grind)
  · exact .inr h

end Obol
/- Plain: the curve y y = x x x + x modulo P: sums and multiples as the reference has them, and as the program has them (scaled); they tell Inf alike. -/
namespace Obol

def mulPQ (a b : Nat) : Nat := a * b % P
def addPQ (a b : Nat) : Nat := (a + b) % P
def subPQ (a b : Nat) : Nat := (a % P + P - b % P) % P
noncomputable def mulP : Nat → Nat → Nat := (shut mulPQ).1
noncomputable def addP : Nat → Nat → Nat := (shut addPQ).1
noncomputable def subP : Nat → Nat → Nat := (shut subPQ).1
noncomputable def invP : Nat → Nat := (shut (fun b : Nat => b ^ (P - 2) % P)).1
theorem mulP_eq : mulP = mulPQ := (shut mulPQ).2
theorem addP_eq : addP = addPQ := (shut addPQ).2
theorem subP_eq : subP = subPQ := (shut subPQ).2
theorem invP_eq (b : Nat) : invP b = b ^ (P - 2) % P := congrFun (shut (fun b : Nat => b ^ (P - 2) % P)).2 b
noncomputable def overP (a b : Nat) : Nat := mulP a (invP b)
theorem mulP_lt (a b : Nat) : mulP a b < P := by rw [mulP_eq]; exact Nat.mod_lt _ P_pos
theorem addP_lt (a b : Nat) : addP a b < P := by rw [addP_eq]; exact Nat.mod_lt _ P_pos
theorem subP_lt (a b : Nat) : subP a b < P := by rw [subP_eq]; exact Nat.mod_lt _ P_pos
theorem mulP_comm (a b : Nat) : mulP a b = mulP b a := by rw [mulP_eq, mulPQ, mulPQ, Nat.mul_comm]

theorem mulP_val (a b : Fp) : mulP a.val b.val = (a * b).val := by rw [mulP_eq]; rfl
theorem addP_val (a b : Fp) : addP a.val b.val = (a + b).val := by rw [addP_eq]; rfl
theorem subP_val (a b : Fp) : subP a.val b.val = (a - b).val := by
  rw [pval_sub, subP_eq, subPQ, Nat.mod_eq_of_lt a.isLt, Nat.mod_eq_of_lt b.isLt]
  congr 1
  have := a.isLt
  have := b.isLt
  omega
theorem invP_val (a : Fp) : invP a.val = (fpinv a).val := by rw [invP_eq, fpinv_val]
theorem overP_val (a b : Fp) : overP a.val b.val = (a * fpinv b).val := by rw [overP, invP_val, mulP_val]
theorem two_pval : (2 : Fp).val = 2 := by decide +kernel
theorem three_pval : (3 : Fp).val = 3 := by decide +kernel
theorem four_pval : (4 : Fp).val = 4 := by decide +kernel
theorem eight_pval : (8 : Fp).val = 8 := by decide +kernel

/-- Is a pair a point that isn't Inf? -/
noncomputable def isC (x y : Nat) : Bool := decide (x < P) && decide (y < P) && decide (mulP y y = addP (mulP (mulP x x) x) x)
theorem isC_on {x y : Fp} : isC x.val y.val = true ↔ y * y = x * x * x + x := by
  unfold isC
  rw [decide_eq_true x.isLt, decide_eq_true y.isLt, Bool.true_and, Bool.true_and, decide_eq_true_eq, mulP_val, mulP_val, mulP_val, addP_val]
  exact ⟨fun h => Fin.ext h, fun h => by rw [h]⟩

/-- A sum, as the reference has it. -/
noncomputable def slopeC (a b : Nat × Nat) : Nat :=
  if a.1 = b.1 then overP (addP (mulP 3 (mulP a.1 a.1)) 1) (mulP 2 a.2) else overP (subP b.2 a.2) (subP b.1 a.1)
noncomputable def lineC (l : Nat) (a b : Nat × Nat) : Nat × Nat :=
  (subP (mulP l l) (addP a.1 b.1), subP (mulP l (subP a.1 (subP (mulP l l) (addP a.1 b.1)))) a.2)
noncomputable def sumC : Option (Nat × Nat) → Option (Nat × Nat) → Option (Nat × Nat)
  | .none, q => q
  | .some p, .none => .some p
  | .some p, .some q => if p.1 = q.1 ∧ addP p.2 q.2 = 0 then .none else .some (lineC (slopeC p q) p q)
noncomputable def timC (a : Nat × Nat) (k : Nat) : Nat → Option (Nat × Nat) → Option (Nat × Nat)
  | 0, out => out
  | j + 1, out => timC a k j (if k / 2 ^ j % 2 = 1 then sumC (sumC out out) (.some a) else sumC out out)

/-- Doubling and adding, as the program has them. -/
noncomputable def twC (a : Nat × Nat × Nat) : Nat × Nat × Nat :=
  let y2 := mulP a.2.1 a.2.1
  let s := mulP 4 (mulP a.1 y2)
  let z2 := mulP a.2.2 a.2.2
  let m := addP (mulP 3 (mulP a.1 a.1)) (mulP z2 z2)
  let x := subP (mulP m m) (addP s s)
  (x, subP (mulP m (subP s x)) (mulP 8 (mulP y2 y2)), mulP 2 (mulP a.2.1 a.2.2))
noncomputable def moC (a : Nat × Nat × Nat) (b : Nat × Nat) : Nat × Nat × Nat :=
  let z2 := mulP a.2.2 a.2.2
  let h := subP (mulP b.1 z2) a.1
  let r := subP (mulP b.2 (mulP z2 a.2.2)) a.2.1
  let h2 := mulP h h
  let h3 := mulP h h2
  let v := mulP a.1 h2
  let x := subP (subP (mulP r r) h3) (addP v v)
  if a.2.2 = 0 then (b.1, b.2, 1) else if h = 0 ∧ r = 0 then twC a else (x, subP (mulP r (subP v x)) (mulP a.2.1 h3), mulP h a.2.2)
noncomputable def upC (a : Nat × Nat × Nat) : Nat × Nat × Nat := if a.2.2 = 0 then a else twC a
noncomputable def jacC (a : Nat × Nat) (k : Nat) : Nat → Nat × Nat × Nat → Nat × Nat × Nat
  | 0, out => out
  | j + 1, out => jacC a k j (if k / 2 ^ j % 2 = 1 then moC (upC out) a else upC out)

/-- Three numbers that stand for a point, or Inf. -/
inductive Rep : Nat × Nat × Nat → Option (Nat × Nat) → Prop
  | inf (X Y : Fp) : Rep (X.val, Y.val, 0) Option.none
  | pt (X Y Z x y : Fp) (hz : Z ≠ 0) (on : y * y = x * x * x + x) (hX : X = x * (Z * Z)) (hY : Y = y * (Z * Z * Z)) : Rep (X.val, Y.val, Z.val) (.some (x.val, y.val))
theorem Rep.of {X Y Z : Fp} {n : Nat × Nat × Nat} {p : Option (Nat × Nat)} (h : Rep (X.val, Y.val, Z.val) p) (e : n = (X.val, Y.val, Z.val)) : Rep n p := by rw [e]; exact h
theorem twC_val (X Y Z : Fp) : twC (X.val, Y.val, Z.val) =
    (((3 * (X * X) + Z * Z * (Z * Z)) * (3 * (X * X) + Z * Z * (Z * Z)) - (4 * (X * (Y * Y)) + 4 * (X * (Y * Y)))).val,
     ((3 * (X * X) + Z * Z * (Z * Z)) * (4 * (X * (Y * Y)) - ((3 * (X * X) + Z * Z * (Z * Z)) * (3 * (X * X) + Z * Z * (Z * Z)) - (4 * (X * (Y * Y)) + 4 * (X * (Y * Y))))) - 8 * (Y * Y * (Y * Y))).val,
     (2 * (Y * Z)).val) := by
  unfold twC
  simp only
  rw [← two_pval, ← three_pval, ← four_pval, ← eight_pval]
  simp only [mulP_val, addP_val, subP_val]
theorem fp_half {y : Fp} (h : y + y = 0) : y = 0 := by
  have h2 : (2 : Fp) * y = 0 := by grind
  rcases fp_dom _ _ h2 with h | h
  · exact absurd (congrArg Fin.val h) (by rw [two_pval, pval_zero]; decide)
  · exact h
theorem fp_ne_mul {a b : Fp} (ha : a ≠ 0) (hb : b ≠ 0) : a * b ≠ 0 := fun h => by
  rcases fp_dom _ _ h with h | h
  · exact ha h
  · exact hb h
theorem fp_two_ne : (2 : Fp) ≠ 0 := fun h => absurd (congrArg Fin.val h) (by rw [two_pval, pval_zero]; decide)
theorem sumC_double (x y : Fp) : sumC (.some (x.val, y.val)) (.some (x.val, y.val)) = if y + y = 0 then Option.none else
    .some (((3 * (x * x) + 1) * fpinv (2 * y) * ((3 * (x * x) + 1) * fpinv (2 * y)) - (x + x)).val,
      ((3 * (x * x) + 1) * fpinv (2 * y) * (x - ((3 * (x * x) + 1) * fpinv (2 * y) * ((3 * (x * x) + 1) * fpinv (2 * y)) - (x + x))) - y).val) := by
  by_cases h : y + y = 0
  · rw [if_pos h]
    exact if_pos ⟨rfl, by rw [addP_val, h, pval_zero]⟩
  · rw [if_neg h]
    refine (if_neg (fun e => h (pval_eq_zero.2 (by rw [← addP_val]; exact e.2)))).trans ?_
    unfold lineC slopeC
    rw [if_pos rfl, ← two_pval, ← three_pval, ← pval_one]
    simp only [mulP_val, addP_val, subP_val, overP_val]
theorem sumC_other (x y a b : Fp) (hne : x ≠ a) : sumC (.some (x.val, y.val)) (.some (a.val, b.val)) =
    .some (((b - y) * fpinv (a - x) * ((b - y) * fpinv (a - x)) - (x + a)).val,
      ((b - y) * fpinv (a - x) * (x - ((b - y) * fpinv (a - x) * ((b - y) * fpinv (a - x)) - (x + a))) - y).val) := by
  have hv : x.val ≠ a.val := fun e => hne (Fin.ext e)
  unfold sumC lineC slopeC
  simp only [hv, false_and, if_false]
  simp only [mulP_val, addP_val, subP_val, overP_val]
theorem sumC_same (x y b : Fp) (h : y + b = 0) : sumC (.some (x.val, y.val)) (.some (x.val, b.val)) = Option.none := by
  exact if_pos ⟨rfl, by rw [addP_val, h, pval_zero]⟩

theorem rep_twice {X Y Z x y : Fp} (hz : Z ≠ 0) (on : y * y = x * x * x + x) (hX : X = x * (Z * Z)) (hY : Y = y * (Z * Z * Z)) :
    Rep (twC (X.val, Y.val, Z.val)) (sumC (.some (x.val, y.val)) (.some (x.val, y.val))) := by
  rw [twC_val, sumC_double]
  by_cases h : y + y = 0
  · rw [if_pos h]
    have h0 : (2 * (Y * Z)).val = 0 := by rw [hY, fp_half h]; rw [show (2 * (0 * (Z * Z * Z) * Z) : Fp) = 0 by grind, pval_zero]
    rw [h0]
    exact .inf _ _
  · rw [if_neg h]
    have hi : (3 * (x * x) + 1) * fpinv (2 * y) * (y + y) = 3 * (x * x) + 1 := by
      have h2 : (2 : Fp) * y ≠ 0 := fun e => h (by grind)
      have := fpinv_mul _ h2
      generalize fpinv (2 * y) = i at this
      grind
    generalize (3 * (x * x) + 1) * fpinv (2 * y) = l at hi
    have e1 := jac_twice (X := X) (Y := Y) (Z := Z) hX hY hi
    have e2 := jac_twice_y (X := X) (Y := Y) (Z := Z) hX hY hi e1
    refine .pt _ _ _ _ _ ?_ (on_double on h hi) e1 e2
    refine fp_ne_mul fp_two_ne (fp_ne_mul ?_ hz)
    rw [hY]
    exact fp_ne_mul (fun e => h (by grind)) (fp_ne_mul (fp_ne_mul hz hz) hz)

theorem rep_up {t : Nat × Nat × Nat} {p : Option (Nat × Nat)} (h : Rep t p) : Rep (upC t) (sumC p p) := by
  cases h with
  | inf X Y => exact .inf X Y
  | pt X Y Z x y hz on hX hY =>
    unfold upC
    rw [if_neg (fun e => hz (pval_eq_zero.2 e))]
    exact rep_twice hz on hX hY

theorem moC_val (X Y Z a b : Fp) (hz : Z ≠ 0) : moC (X.val, Y.val, Z.val) (a.val, b.val) =
    let h := a * (Z * Z) - X
    let r := b * (Z * Z * Z) - Y
    if h = 0 ∧ r = 0 then twC (X.val, Y.val, Z.val) else
    ((r * r - h * (h * h) - (X * (h * h) + X * (h * h))).val,
     (r * (X * (h * h) - (r * r - h * (h * h) - (X * (h * h) + X * (h * h)))) - Y * (h * (h * h))).val,
     (h * Z).val) := by
  have hz0 : Z.val ≠ 0 := fun e => hz (pval_eq_zero.2 e)
  unfold moC
  simp only [hz0, if_false]
  simp only [mulP_val, addP_val, subP_val, ← pval_eq_zero]

theorem rep_more {t : Nat × Nat × Nat} {p : Option (Nat × Nat)} (h : Rep t p) (a b : Fp) (hab : b * b = a * a * a + a) : Rep (moC t (a.val, b.val)) (sumC p (.some (a.val, b.val))) := by
  cases h with
  | inf X Y =>
    have h1 : (1 : Fp) ≠ 0 := fun e => absurd (congrArg Fin.val e) (by rw [pval_one, pval_zero]; decide)
    have := Rep.pt a b 1 a b h1 hab (by grind) (by grind)
    rw [pval_one] at this
    exact this
  | pt X Y Z x y hz on hX hY =>
    rw [moC_val _ _ _ _ _ hz]
    simp only
    by_cases hx : x = a
    · subst hx
      have hh : x * (Z * Z) - X = 0 := by rw [hX]; grind
      rcases on_same on hab with e | e
      · subst e
        rw [if_pos ⟨hh, by rw [hY]; grind⟩]
        exact rep_twice hz on hX hY
      · rw [sumC_same _ _ _ e]
        by_cases hr : b * (Z * Z * Z) - Y = 0
        · rw [if_pos ⟨hh, hr⟩]
          have hb : b = y := by
            have h3 : (b - y) * (Z * Z * Z) = 0 := by rw [hY] at hr; grind
            rcases fp_dom _ _ h3 with h | h
            · grind
            · exact absurd h (fp_ne_mul (fp_ne_mul hz hz) hz)
          subst hb
          have := rep_twice hz on hX hY
          rwa [sumC_double, if_pos e] at this
        · rw [if_neg (fun h => hr h.2)]
          have h0 : ((x * (Z * Z) - X) * Z).val = 0 := by rw [hh, show (0 * Z : Fp) = 0 by grind, pval_zero]
          rw [h0]
          exact .inf _ _
    · have hd : a - x ≠ 0 := fun e => hx (by grind)
      have e0 : a * (Z * Z) - X = (a - x) * (Z * Z) := by rw [hX]; grind
      have hh : a * (Z * Z) - X ≠ 0 := by rw [e0]; exact fp_ne_mul hd (fp_ne_mul hz hz)
      rw [if_neg (fun h => hh h.1), sumC_other _ _ _ _ hx]
      have hi : (b - y) * fpinv (a - x) * (a - x) = b - y := by
        have := fpinv_mul _ hd
        generalize fpinv (a - x) = i at this
        grind
      generalize (b - y) * fpinv (a - x) = l at hi
      have e1 := jac_more (X := X) (Y := Y) (Z := Z) (h := a * (Z * Z) - X) (r := b * (Z * Z * Z) - Y) hX hY hi rfl rfl
      have e2 := jac_more_y (X := X) (Y := Y) (Z := Z) (h := a * (Z * Z) - X) (r := b * (Z * Z * Z) - Y) hX hY hi rfl rfl e1
      exact .pt _ _ _ _ _ (fp_ne_mul hh hz) (on_sum on hab hd hi) e1 e2

theorem rep_times (a b : Fp) (hab : b * b = a * a * a + a) (k : Nat) : ∀ (j : Nat) (t : Nat × Nat × Nat) (p : Option (Nat × Nat)), Rep t p → Rep (jacC (a.val, b.val) k j t) (timC (a.val, b.val) k j p)
  | 0, _, _, h => h
  | j + 1, t, p, h => by
    unfold jacC timC
    by_cases hb : k / 2 ^ j % 2 = 1
    · rw [if_pos hb, if_pos hb]
      exact rep_times a b hab k j _ _ (rep_more (rep_up h) a b hab)
    · rw [if_neg hb, if_neg hb]
      exact rep_times a b hab k j _ _ (rep_up h)

theorem rep_none {t : Nat × Nat × Nat} {p : Option (Nat × Nat)} (h : Rep t p) : t.2.2 = 0 ↔ p = Option.none := by
  cases h with
  | inf X Y => simp
  | pt X Y Z x y hz on hX hY => exact ⟨fun e => absurd (pval_eq_zero.2 e) hz, fun e => by cases e⟩

/-- A point's multiple is Inf where the scaled one's Z is 0. -/
theorem jac_inf {x y : Nat} (h : isC x y = true) (k : Nat) : (jacC (x, y) k 64 (0, 0, 0)).2.2 = 0 ↔ timC (x, y) k 64 Option.none = Option.none := by
  have h' := h
  unfold isC at h'
  simp only [Bool.and_eq_true, decide_eq_true_eq] at h'
  have on := (isC_on (x := ⟨x, h'.1.1⟩) (y := ⟨y, h'.1.2⟩)).1 h
  refine rep_none (rep_times ⟨x, h'.1.1⟩ ⟨y, h'.1.2⟩ on k 64 (0, 0, 0) Option.none ?_)
  have := Rep.inf 0 0
  rwa [pval_zero] at this
theorem jacC_lt {a : Nat × Nat} (ha : a.1 < P ∧ a.2 < P) (k : Nat) : ∀ (j : Nat) (t : Nat × Nat × Nat), t.1 < P ∧ t.2.1 < P ∧ t.2.2 < P → (jacC a k j t).1 < P ∧ (jacC a k j t).2.1 < P ∧ (jacC a k j t).2.2 < P := by
  have h2 : ∀ t, (twC t).1 < P ∧ (twC t).2.1 < P ∧ (twC t).2.2 < P := fun t => ⟨subP_lt _ _, subP_lt _ _, mulP_lt _ _⟩
  have hu : ∀ t : Nat × Nat × Nat, t.1 < P ∧ t.2.1 < P ∧ t.2.2 < P → (upC t).1 < P ∧ (upC t).2.1 < P ∧ (upC t).2.2 < P := fun t h => by
    unfold upC; split
    · exact h
    · exact h2 t
  have hm : ∀ t : Nat × Nat × Nat, (moC t a).1 < P ∧ (moC t a).2.1 < P ∧ (moC t a).2.2 < P := fun t => by
    unfold moC
    simp only
    split
    · exact ⟨ha.1, ha.2, show 1 < P by decide +kernel⟩
    · split
      · exact h2 t
      · exact ⟨subP_lt _ _, subP_lt _ _, mulP_lt _ _⟩
  intro j
  induction j with
  | zero => intro t h; exact h
  | succ j ih =>
    intro t h
    unfold jacC
    split
    · exact ih _ (hm _)
    · exact ih _ (hu _ h)

end Obol
