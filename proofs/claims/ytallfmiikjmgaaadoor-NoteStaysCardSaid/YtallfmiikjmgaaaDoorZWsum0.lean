import Derived.Test.YtallfmiikjmgaaaDoorZWpress
import Derived.Lib.BufferWrite
import Derived.Laws.CopyOwn
set_option linter.unusedVariables false
set_option linter.unusedSimpArgs false
/- Walks: package blake: the digest. -/
namespace Obol

/-- A block's bytes. -/
def blockL (b : List Nat) (j : Nat) : List Nat := (List.range 64).map fun i => b.getD (64 * j + i) 0
theorem blockL_get (b : List Nat) (j i : Nat) (hi : i < 64) : (blockL b j).getD i 0 = b.getD (64 * j + i) 0 := by
  unfold blockL
  rw [List.getD_eq_getElem?_getD, List.getElem?_map, List.getElem?_range hi]
  rfl
theorem blockL_len (b : List Nat) (j : Nat) : (blockL b j).length = 64 := by simp [blockL]
theorem msg_block (b : List Nat) (j : Nat) : msgL (blockL b j) 0 = msgL b (64 * j) := by
  unfold msgL
  refine List.map_congr_left fun i hi => ?_
  have hi := List.mem_range.1 hi
  unfold wordAt
  rw [blockL_get _ _ _ (by omega), blockL_get _ _ _ (by omega), blockL_get _ _ _ (by omega), blockL_get _ _ _ (by omega)]
  simp only [Nat.zero_add, Nat.add_assoc]
def pad8 (p : List Nat) : List Nat := (List.range 8).map fun i => p.getD i 0
theorem pad8_get (p : List Nat) (i : Nat) (hi : i < 8) : (pad8 p).getD i 0 = p.getD i 0 := by
  unfold pad8
  rw [List.getD_eq_getElem?_getD, List.getElem?_map, List.getElem?_range hi]
  rfl
theorem pad8_len (p : List Nat) : (pad8 p).length = 8 := by simp [pad8]
theorem word_pad (p : List Nat) (o : Nat) (h : o + 3 < 8) : wordAt (pad8 p) o = wordAt p o := by
  unfold wordAt
  rw [pad8_get _ _ (by omega), pad8_get _ _ (by omega), pad8_get _ _ (by omega), pad8_get _ _ (by omega)]

end Obol
namespace Go.Proofs.YtallfmiikjmgaaaDoor
open Go.RowKit

theorem byte_lt (b : UInt8) : b.toNat < 256 := b.toNat_lt
/-- A string's bytes. -/
def strL (s : ByteArray) : List Nat := s.data.toList.map fun b => b.toNat
theorem strL_lt (s : ByteArray) (i : Nat) : (strL s).getD i 0 < 256 := by
  unfold strL
  rw [List.getD_eq_getElem?_getD, List.getElem?_map]
  cases s.data.toList[i]? with
  | none => decide
  | some x => exact byte_lt x
theorem strL_len (s : ByteArray) : (strL s).length = s.size := by unfold strL; simp

theorem setRow_row {w : World} {g : Nat} {cs cs' : Array Value} {t : TypeId} (h : Row w g cs t) : Row (w.setRow g cs') g cs' t := setRow_heap w g cs cs' t (0, 0) h
theorem setRow_keep {w : World} {g b : Nat} {cs cs' : Array Value} {t : TypeId} (h : Row w b cs t) (hne : b ≠ g) : Row (w.setRow g cs') b cs t := (setRow_other w g b cs' hne).trans h
theorem bSetRow {B : Nat} {a w : World} (h : Below B a w) {g : Nat} (hg : B ≤ g) (cs : Array Value) : Below B a (w.setRow g cs) :=
  ⟨h.os, h.tape, h.output, by rw [size_setRow]; exact h.size, fun k hk => (setRow_other w g k cs (by omega)).trans (h.block k hk)⟩
theorem sizeU8 : (Tryd.prog.info? 5).map (·.size) = some 1 := by kernel_rfl
theorem bFirstL (w : World) :
    Calls Tryd.prog 88 #[] w fun e w' => e = .returned (.agg #[.int .u32 1779033703, .int .u32 3144134277, .int .u32 1013904242, .int .u32 2773480762, .int .u32 1359893119, .int .u32 2600822924, .int .u32 528734635, .int .u32 1541459225]) ∧ Below w.heap.size w w' := bFirst w
abbrev z8 : Array Value := #[.int .u8 0, .int .u8 0, .int .u8 0, .int .u8 0, .int .u8 0, .int .u8 0, .int .u8 0, .int .u8 0]
theorem copy_person (W : World) (g : Nat) (s : ByteArray) (hs : s.size ≤ 8) (R : Row W g z8 103) :
    (Builtin.copy_ #[42, 9] 3 #[.slice (some ⟨g, 0, none⟩) 8 8, .string s]).run Tryd.prog W = .ok (goInt s.size) (W.setRow g (u8s (Obol.pad8 (strL s)))) := by
  rw [Lib.run_copy_row_string W 42 9 3 5 g 0 8 8 s z8 103 Tryd.underlying42 sizeU8 R hs (by simpa using hs)]
  congr 2
  apply Array.toList_inj.1
  show List.take 0 z8.toList ++ Lib.byteCells s.data.toList ++ List.drop (0 + s.size) z8.toList = (u8s (Obol.pad8 (strL s))).toList
  have e1 : (u8s (Obol.pad8 (strL s))).toList.length = 8 := by rw [Array.length_toList, u8s_size, Obol.pad8_len]
  have e2 : ((List.take 0 z8.toList ++ Lib.byteCells s.data.toList ++ List.drop (0 + s.size) z8.toList)).length = 8 := by
    rw [List.length_append, List.length_append, Lib.byteCells_length, List.length_drop, ← Lib.size_eq]
    simp
    omega
  refine List.ext_getElem? fun j => ?_
  by_cases hj : j < 8
  · have h1 : (u8s (Obol.pad8 (strL s))).toList[j]? = some (.int .u8 (((strL s).getD j 0 : Nat) : Int)) := by
      rw [Array.getElem?_toList, u8s_get _ _ (by rw [Obol.pad8_len]; exact hj), Obol.pad8_get _ _ hj]
    rw [h1]
    simp only [List.take_zero, List.nil_append]
    rw [List.getElem?_append, Lib.byteCells_length, ← Lib.size_eq]
    split
    · rename_i h
      have h3 : j < s.data.toList.length := by rw [← Lib.size_eq]; exact h
      unfold Lib.byteCells strL
      rw [List.getElem?_map, List.getD_eq_getElem?_getD, List.getElem?_map, List.getElem?_eq_getElem h3]
      rfl
    · rename_i h
      have h3 : (strL s).getD j 0 = 0 := by
        rw [List.getD_eq_getElem?_getD, List.getElem?_eq_none (by rw [strL_len]; omega)]
        rfl
      rw [h3, List.getElem?_drop, show 0 + s.size + (j - s.size) = j by omega]
      match j, hj with
      | 0, _ => rfl
      | 1, _ => rfl
      | 2, _ => rfl
      | 3, _ => rfl
      | 4, _ => rfl
      | 5, _ => rfl
      | 6, _ => rfl
      | 7, _ => rfl
  · rw [List.getElem?_eq_none (by omega), List.getElem?_eq_none (by omega)]

theorem startV_w {h : List Nat} (H : Obol.W32 8 h) (count : Nat) (last : Bool) : Obol.W32 16 (Obol.startV h count last) := by
  have h0 := app_w H first_w
  have h1 := h0.set 12 _ (Obol.xor_lt (h0.lt 12) (Nat.mod_lt count (by decide : 4294967296 > 0)))
  have h2 := h1.set 13 _ (Obol.xor_lt (h1.lt 13) (Nat.mod_lt (count / 4294967296) (by decide : 4294967296 > 0)))
  unfold Obol.startV Obol.last14
  cases last
  · exact h2
  · exact h2.set 14 _ (Obol.xor_lt (h2.lt 14) (by decide : 4294967295 < 4294967296))
theorem cols_w (M : List Nat) (i : Nat) : ∀ (k : Nat) (V : List Nat), Obol.W32 16 V → Obol.W32 16 (Obol.cols M i k V)
  | 0, _, h => h
  | k + 1, V, h => mixL_w (cols_w M i k V h) _ _ _ _ _ _
theorem dias_w (M : List Nat) (i : Nat) : ∀ (k : Nat) (V : List Nat), Obol.W32 16 V → Obol.W32 16 (Obol.dias M i k V)
  | 0, _, h => h
  | k + 1, V, h => mixL_w (dias_w M i k V h) _ _ _ _ _ _
theorem rnds_w (M : List Nat) : ∀ (i : Nat) (V : List Nat), Obol.W32 16 V → Obol.W32 16 (Obol.rnds M i V)
  | 0, _, h => h
  | i + 1, V, h => dias_w M i 4 _ (cols_w M i 4 _ (rnds_w M i V h))
theorem endV_w {h v : List Nat} (H : Obol.W32 8 h) (HV : Obol.W32 16 v) : ∀ i : Nat, Obol.W32 8 (Obol.endV h v i h)
  | 0 => H
  | i + 1 => (endV_w H HV i).set _ _ (Obol.xor_lt (H.lt _) (Obol.xor_lt (HV.lt _) (HV.lt _)))
theorem pressL_w {h : List Nat} (H : Obol.W32 8 h) (m : List Nat) (count : Nat) (last : Bool) : Obol.W32 8 (Obol.pressL h m count last) := endV_w H (rnds_w m 10 _ (startV_w H count last)) 8
theorem initH_w {p : List Nat} (h : ∀ i, p.getD i 0 < 256) : Obol.W32 8 (Obol.initH p) :=
  ((first_w.set 0 _ (by decide)).set 6 _ (Obol.xor_lt (by decide) (Obol.wordAt_lt p h 0))).set 7 _ (Obol.xor_lt (by decide) (Obol.wordAt_lt p h 4))
theorem stH_w {p : List Nat} (h : ∀ i, p.getD i 0 < 256) (b : List Nat) : ∀ j, Obol.W32 8 (Obol.stH p b j)
  | 0 => initH_w h
  | j + 1 => pressL_w (stH_w h b j) _ _ _

/-- What is left of the bytes. -/
structure SlI (base : Nat) (w : World) (a : Option Addr) (c : Nat) (R : List Nat) : Prop where
  le : R.length ≤ c
  cap : c ≤ 9223372036854775807
  no : a = none → R.length = 0 ∧ c = 0
  bl : 0 < R.length → ∃ b o, a = some ⟨b, o, none⟩ ∧ b < base ∧ BL w b o R
theorem SlI.below {base : Nat} {w w' : World} {a : Option Addr} {c : Nat} {R : List Nat} (h : SlI base w a c R) (hb : Below base w w') : SlI base w' a c R :=
  ⟨h.le, h.cap, h.no, fun h0 => by
    obtain ⟨b, o, h1, h2, h3⟩ := h.bl h0
    exact ⟨b, o, h1, h2, h3.below hb h2⟩⟩
def BlkI (len j : Nat) (fl : Bool) : Prop := fl = decide (0 < j ∧ len ≤ 64 * j) ∧ (j = 0 ∨ j = 1 ∨ 64 * (j - 1) < len)
def slLen : Value → Nat
  | .slice _ n _ => n
  | _ => 0
def flag : Value → Nat
  | .bool true => 0
  | _ => 1
abbrev z64 : Array Value := #[.int .u8 0, .int .u8 0, .int .u8 0, .int .u8 0, .int .u8 0, .int .u8 0, .int .u8 0, .int .u8 0, .int .u8 0, .int .u8 0, .int .u8 0, .int .u8 0, .int .u8 0, .int .u8 0, .int .u8 0, .int .u8 0, .int .u8 0, .int .u8 0, .int .u8 0, .int .u8 0, .int .u8 0, .int .u8 0, .int .u8 0, .int .u8 0, .int .u8 0, .int .u8 0, .int .u8 0, .int .u8 0, .int .u8 0, .int .u8 0, .int .u8 0, .int .u8 0, .int .u8 0, .int .u8 0, .int .u8 0, .int .u8 0, .int .u8 0, .int .u8 0, .int .u8 0, .int .u8 0, .int .u8 0, .int .u8 0, .int .u8 0, .int .u8 0, .int .u8 0, .int .u8 0, .int .u8 0, .int .u8 0, .int .u8 0, .int .u8 0, .int .u8 0, .int .u8 0, .int .u8 0, .int .u8 0, .int .u8 0, .int .u8 0, .int .u8 0, .int .u8 0, .int .u8 0, .int .u8 0, .int .u8 0, .int .u8 0, .int .u8 0, .int .u8 0]
theorem z64_eq : u8s (zs 64) = z64 := rfl
theorem addP (b o i : Nat) : (⟨b, o, none⟩ : Addr).add i = ⟨b, o + i, none⟩ := by unfold Addr.add; split <;> simp_all
set_option maxRecDepth 8000 in
theorem copy_block (W : World) (g : Nat) (R0 : Row W g (u8s (zs 64)) 105) (b o c : Nat) (L : List Nat) (j : Nat) (hc : BL W b o (L.drop (64 * j))) :
    (Builtin.copy_ #[42, 42] 3 #[.slice (some ⟨g, 0, none⟩) 64 64, .slice (some ⟨b, o, none⟩) (L.drop (64 * j)).length c]).run Tryd.prog W = .ok (goInt (min 64 (L.drop (64 * j)).length : Nat)) (W.setRow g (u8s (Obol.blockL L j))) := by
  have hl : (U8 ((L.drop (64 * j)).take 64)).length = min 64 (L.drop (64 * j)).length := by simp
  have h := run_copy_row (P := Tryd.prog) W 42 42 3 5 g 0 64 64 ⟨b, o, none⟩ (L.drop (64 * j)).length c (u8s (zs 64)) 105 (U8 ((L.drop (64 * j)).take 64)) Tryd.underlying42 sizeU8 R0
    (by rw [hl]; exact Nat.min_comm _ _) (fun i v hi => by
      have hil : i < ((L.drop (64 * j)).take 64).length := by
        have := (List.getElem?_eq_some_iff.1 hi).1
        simpa using this
      rw [addP, hc i (by rw [List.length_take] at hil; omega)]
      rw [List.getElem?_map, List.getElem?_eq_getElem hil] at hi
      rw [List.getElem_take] at hi
      rw [List.getD_eq_getElem?_getD, List.getElem?_eq_getElem (by rw [List.length_take] at hil; omega)]
      simpa using hi)
    (by rw [u8s_size]; simp; omega) (fun v hv => by
      obtain ⟨x, _, rfl⟩ := List.mem_map.1 hv
      rfl)
  rw [h, hl]
  congr 2
  apply Array.toList_inj.1
  show List.take 0 (u8s (zs 64)).toList ++ U8 ((L.drop (64 * j)).take 64) ++ List.drop (0 + min 64 (L.drop (64 * j)).length) (u8s (zs 64)).toList = (u8s (Obol.blockL L j)).toList
  have e1 : (u8s (Obol.blockL L j)).toList.length = 64 := by rw [Array.length_toList, u8s_size, Obol.blockL_len]
  have e3 : (u8s (zs 64)).toList.length = 64 := by rw [Array.length_toList, u8s_size]; simp
  refine List.ext_getElem? fun i => ?_
  simp only [List.take_zero, List.nil_append, Nat.zero_add]
  rw [List.getElem?_append, hl]
  by_cases hi : i < 64
  · have hb1 : (u8s (Obol.blockL L j)).toList[i]? = some (.int .u8 ((L.getD (64 * j + i) 0 : Nat) : Int)) := by
      rw [Array.getElem?_toList, u8s_get _ _ (by rw [Obol.blockL_len]; exact hi), Obol.blockL_get _ _ _ hi]
    have hb2 : (u8s (zs 64)).toList[i]? = some (.int .u8 0) := by
      rw [Array.getElem?_toList, u8s_get _ _ (by simpa using hi)]
      simp [List.getD_eq_getElem?_getD, hi]
    rw [hb1]
    split
    · rename_i h
      have h2 : i < ((L.drop (64 * j)).take 64).length := by rw [List.length_take]; omega
      rw [List.getElem?_map, List.getElem?_eq_getElem h2, List.getElem_take, List.getElem_drop, List.getD_eq_getElem?_getD, List.getElem?_eq_getElem (by rw [List.length_drop] at h; omega)]
      rfl
    · rename_i h
      have h2 : L.getD (64 * j + i) 0 = 0 := by
        rw [List.getD_eq_getElem?_getD, List.getElem?_eq_none (by rw [List.length_drop] at h; omega)]
        rfl
      rw [h2, List.getElem?_drop, show min 64 (L.drop (64 * j)).length + (i - min 64 (L.drop (64 * j)).length) = i by omega, hb2]
      rfl
  · rw [List.getElem?_eq_none (show (u8s (Obol.blockL L j)).toList.length ≤ i by omega), if_neg (by omega), List.getElem?_eq_none (by rw [List.length_drop, e3]; omega)]
theorem copy_block' (W : World) (g : Nat) (R0 : Row W g z64 105) (b o c : Nat) (L : List Nat) (j : Nat) (hc : BL W b o (L.drop (64 * j))) :
    (Builtin.copy_ #[42, 42] 3 #[.slice (some ⟨g, 0, none⟩) 64 64, .slice (some ⟨b, o, none⟩) (L.drop (64 * j)).length c]).run Tryd.prog W = .ok (goInt (min 64 (L.drop (64 * j)).length : Nat)) (W.setRow g (u8s (Obol.blockL L j))) :=
  copy_block W g (by rw [z64_eq]; exact R0) b o c L j hc
theorem slice_rest {P : Program} (t e : TypeId) (ht : P.underlying t = some (.slice e)) (he : (P.info? e).map (fun i => (i.zero, i.size, i.bytes)) = some (some (.int .u8 0), 1, 1)) (b o len c n : Nat) (h1 : n ≤ len) (_ : len ≤ c) (W : World) :
    (Instr.slice t (.slice (some ⟨b, o, none⟩) len c) (some (.int .i64 (n : Int))) none none).run P W = .ok (.slice (if c = n then some ⟨b, o, none⟩ else some ⟨b, o + n, none⟩) (len - n) (c - n)) W := by
  have e2 : P.elem t = e := by simp [Program.elem, ht]
  obtain ⟨i, hi, _, hs, _⟩ := info_parts he
  rw [run_slice_l W t _ _ _ (by rw [e2]; exact ht) .i64 n (by omega) (by omega), e2]
  simp [Go.sizeOf, typeInfo, hi, hs, Result.andThen, sliced]
  split
  · rfl
  · rw [addP]
theorem blockL_lt {n : Nat} {L : List Nat} (H : B8 n L) (j i : Nat) : (Obol.blockL L j).getD i 0 < 256 := by
  by_cases hi : i < 64
  · rw [Obol.blockL_get _ _ _ hi]; exact H.lt _
  · rw [List.getD_eq_getElem?_getD, List.getElem?_eq_none (by rw [Obol.blockL_len]; omega)]
    decide
theorem wordsB_len : ∀ l : List Nat, (Obol.wordsB l).length = 4 * l.length
  | [] => rfl
  | x :: l => by
    have := wordsB_len l
    unfold Obol.wordsB at *
    rw [List.flatMap_cons, List.length_append, this, List.length_cons]
    simp [Obol.bytes4]
    omega
theorem wordsB_take {l : List Nat} {i : Nat} (hi : i < l.length) : Obol.wordsB (l.take (i + 1)) = Obol.wordsB (l.take i) ++ Obol.bytes4 (l.getD i 0) := by
  unfold Obol.wordsB
  rw [List.take_add_one, List.getElem?_eq_getElem hi, List.flatMap_append, List.getD_eq_getElem?_getD, List.getElem?_eq_getElem hi]
  simp
theorem slice_zero {P : Program} (t e : TypeId) (ht : P.underlying t = some (.slice e)) (he : (P.info? e).map (fun i => (i.zero, i.size, i.bytes)) = some (some (.int .u8 0), 1, 1)) (ao : Option Addr) (c : Nat) :
    ∃ a2, (a2 = none → ao = none) ∧ ∀ W : World, (Instr.slice t (.slice ao 0 c) (some (.int .i64 0)) none none).run P W = .ok (.slice a2 0 c) W := by
  have e2 : P.elem t = e := by simp [Program.elem, ht]
  obtain ⟨i, hi, _, hs, _⟩ := info_parts he
  refine ⟨if c = 0 then ao else ao.map (·.add 0), (fun h => by split at h <;> simp_all), fun W => ?_⟩
  rw [run_slice_l W t _ _ _ (by rw [e2]; exact ht) .i64 0 (by omega) (by omega), e2]
  simp [Go.sizeOf, typeInfo, hi, hs, Result.andThen, sliced]
theorem copy_nothing (W : World) (g : Nat) (R0 : Row W g z64 105) (ao : Option Addr) (c : Nat) (h : ao = none → c = 0) :
    (Builtin.copy_ #[42, 42] 3 #[.slice (some ⟨g, 0, none⟩) 64 64, .slice ao 0 c]).run Tryd.prog W = .ok (goInt 0) W := by
  cases ao with
  | none =>
    rw [h rfl]
    exact run_copy_nil Tryd.prog W 42 42 3 5 ⟨g, 0, none⟩ 64 64 Tryd.underlying42 (by rw [sizeU8]; rfl)
  | some ad =>
    rw [run_copy_row (P := Tryd.prog) W 42 42 3 5 g 0 64 64 ad 0 c z64 105 [] Tryd.underlying42 sizeU8 R0 rfl (fun i v hi => by cases hi) (by simp) (fun v hv => by cases hv)]
    simp only [List.length_nil, List.take_zero, List.nil_append, List.append_nil, List.drop_zero, Nat.add_zero, Array.toArray_toList]
    rw [setRow_self W g z64 105 (0, 0) R0]
    rfl
theorem block_nil (L : List Nat) (j : Nat) (h : L.length ≤ 64 * j) : Obol.blockL L j = zs 64 := by
  refine List.ext_getElem (by rw [Obol.blockL_len]; simp) fun i h1 h2 => ?_
  rw [Obol.blockL_len] at h1
  have := Obol.blockL_get L j i h1
  rw [List.getD_eq_getElem?_getD, List.getElem?_eq_getElem (by rw [Obol.blockL_len]; exact h1), List.getD_eq_getElem?_getD, List.getElem?_eq_none (by omega)] at this
  simpa using this

end Go.Proofs.YtallfmiikjmgaaaDoor
