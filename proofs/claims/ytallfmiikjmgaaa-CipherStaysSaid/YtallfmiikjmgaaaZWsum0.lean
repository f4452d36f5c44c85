import Derived.Test.YtallfmiikjmgaaaZWpress
import Derived.Lib.BufferWrite
import Derived.Laws.CopyOwn
set_option linter.unusedVariables false
set_option linter.unusedSimpArgs false
/- Walks: package blake: the digest. -/
namespace Obol

/-- A block's bytes. -/
def blockL (b : List Nat) (j : Nat) : List Nat := (List.range 64).map fun i => b.getD (64 * j + i) 0
theorem blockL_get (b : List Nat) (j i : Nat) (hi : i < 64) : (blockL b j).getD i 0 = b.getD (64 * j + i) 0 := by
  unfold blockL
  rw [List.getD_eq_getElem?_getD, List.getElem?_map, List.getElem?_range hi]
  rfl
theorem blockL_len (b : List Nat) (j : Nat) : (blockL b j).length = 64 := by simp [blockL]
theorem msg_block (b : List Nat) (j : Nat) : msgL (blockL b j) 0 = msgL b (64 * j) := by
  unfold msgL
  refine List.map_congr_left fun i hi => ?_
  have hi := List.mem_range.1 hi
  unfold wordAt
  rw [blockL_get _ _ _ (by omega), blockL_get _ _ _ (by omega), blockL_get _ _ _ (by omega), blockL_get _ _ _ (by omega)]
  simp only [Nat.zero_add, Nat.add_assoc]
def pad8 (p : List Nat) : List Nat := (List.range 8).map fun i => p.getD i 0
theorem pad8_get (p : List Nat) (i : Nat) (hi : i < 8) : (pad8 p).getD i 0 = p.getD i 0 := by
  unfold pad8
  rw [List.getD_eq_getElem?_getD, List.getElem?_map, List.getElem?_range hi]
  rfl
theorem pad8_len (p : List Nat) : (pad8 p).length = 8 := by simp [pad8]
theorem word_pad (p : List Nat) (o : Nat) (h : o + 3 < 8) : wordAt (pad8 p) o = wordAt p o := by
  unfold wordAt
  rw [pad8_get _ _ (by omega), pad8_get _ _ (by omega), pad8_get _ _ (by omega), pad8_get _ _ (by omega)]

end Obol
namespace Go.Proofs.Ytallfmiikjmgaaa
open Go.RowKit

theorem byte_lt (b : UInt8) : b.toNat < 256 := b.toNat_lt
/-- A string's bytes. -/
def strL (s : ByteArray) : List Nat := s.data.toList.map fun b => b.toNat
theorem strL_lt (s : ByteArray) (i : Nat) : (strL s).getD i 0 < 256 := by
  unfold strL
  rw [List.getD_eq_getElem?_getD, List.getElem?_map]
  cases s.data.toList[i]? with
  | none => decide
  | some x => exact byte_lt x
theorem strL_len (s : ByteArray) : (strL s).length = s.size := by unfold strL; simp

theorem setRow_row {w : World} {g : Nat} {cs cs' : Array Value} {t : TypeId} (h : Row w g cs t) : Row (w.setRow g cs') g cs' t := setRow_heap w g cs cs' t (0, 0) h
theorem setRow_keep {w : World} {g b : Nat} {cs cs' : Array Value} {t : TypeId} (h : Row w b cs t) (hne : b ≠ g) : Row (w.setRow g cs') b cs t := (setRow_other w g b cs' hne).trans h
theorem bSetRow {B : Nat} {a w : World} (h : Below B a w) {g : Nat} (hg : B ≤ g) (cs : Array Value) : Below B a (w.setRow g cs) :=
  ⟨h.os, h.tape, h.output, by rw [size_setRow]; exact h.size, fun k hk => (setRow_other w g k cs (by omega)).trans (h.block k hk)⟩
theorem sizeU8 : (Try.prog.info? 5).map (·.size) = some 1 := by kernel_rfl
abbrev z8 : Array Value := #[.int .u8 0, .int .u8 0, .int .u8 0, .int .u8 0, .int .u8 0, .int .u8 0, .int .u8 0, .int .u8 0]
theorem startV_w {h : List Nat} (H : Obol.W32 8 h) (count : Nat) (last : Bool) : Obol.W32 16 (Obol.startV h count last) := by
  have h0 := app_w H first_w
  have h1 := h0.set 12 _ (Obol.xor_lt (h0.lt 12) (Nat.mod_lt count (by decide : 4294967296 > 0)))
  have h2 := h1.set 13 _ (Obol.xor_lt (h1.lt 13) (Nat.mod_lt (count / 4294967296) (by decide : 4294967296 > 0)))
  unfold Obol.startV Obol.last14
  cases last
  · exact h2
  · exact h2.set 14 _ (Obol.xor_lt (h2.lt 14) (by decide : 4294967295 < 4294967296))
theorem cols_w (M : List Nat) (i : Nat) : ∀ (k : Nat) (V : List Nat), Obol.W32 16 V → Obol.W32 16 (Obol.cols M i k V)
  | 0, _, h => h
  | k + 1, V, h => mixL_w (cols_w M i k V h) _ _ _ _ _ _
theorem dias_w (M : List Nat) (i : Nat) : ∀ (k : Nat) (V : List Nat), Obol.W32 16 V → Obol.W32 16 (Obol.dias M i k V)
  | 0, _, h => h
  | k + 1, V, h => mixL_w (dias_w M i k V h) _ _ _ _ _ _
theorem rnds_w (M : List Nat) : ∀ (i : Nat) (V : List Nat), Obol.W32 16 V → Obol.W32 16 (Obol.rnds M i V)
  | 0, _, h => h
  | i + 1, V, h => dias_w M i 4 _ (cols_w M i 4 _ (rnds_w M i V h))
theorem endV_w {h v : List Nat} (H : Obol.W32 8 h) (HV : Obol.W32 16 v) : ∀ i : Nat, Obol.W32 8 (Obol.endV h v i h)
  | 0 => H
  | i + 1 => (endV_w H HV i).set _ _ (Obol.xor_lt (H.lt _) (Obol.xor_lt (HV.lt _) (HV.lt _)))
theorem pressL_w {h : List Nat} (H : Obol.W32 8 h) (m : List Nat) (count : Nat) (last : Bool) : Obol.W32 8 (Obol.pressL h m count last) := endV_w H (rnds_w m 10 _ (startV_w H count last)) 8
theorem initH_w {p : List Nat} (h : ∀ i, p.getD i 0 < 256) : Obol.W32 8 (Obol.initH p) :=
  ((first_w.set 0 _ (by decide)).set 6 _ (Obol.xor_lt (by decide) (Obol.wordAt_lt p h 0))).set 7 _ (Obol.xor_lt (by decide) (Obol.wordAt_lt p h 4))
theorem stH_w {p : List Nat} (h : ∀ i, p.getD i 0 < 256) (b : List Nat) : ∀ j, Obol.W32 8 (Obol.stH p b j)
  | 0 => initH_w h
  | j + 1 => pressL_w (stH_w h b j) _ _ _

/-- What is left of the bytes. -/
structure SlI (base : Nat) (w : World) (a : Option Addr) (c : Nat) (R : List Nat) : Prop where
  le : R.length ≤ c
  cap : c ≤ 9223372036854775807
  no : a = none → R.length = 0 ∧ c = 0
  bl : 0 < R.length → ∃ b o, a = some ⟨b, o, none⟩ ∧ b < base ∧ BL w b o R
theorem SlI.below {base : Nat} {w w' : World} {a : Option Addr} {c : Nat} {R : List Nat} (h : SlI base w a c R) (hb : Below base w w') : SlI base w' a c R :=
  ⟨h.le, h.cap, h.no, fun h0 => by
    obtain ⟨b, o, h1, h2, h3⟩ := h.bl h0
    exact ⟨b, o, h1, h2, h3.below hb h2⟩⟩
def BlkI (len j : Nat) (fl : Bool) : Prop := fl = decide (0 < j ∧ len ≤ 64 * j) ∧ (j = 0 ∨ j = 1 ∨ 64 * (j - 1) < len)
def slLen : Value → Nat
  | .slice _ n _ => n
  | _ => 0
def flag : Value → Nat
  | .bool true => 0
  | _ => 1
abbrev z64 : Array Value := #[.int .u8 0, .int .u8 0, .int .u8 0, .int .u8 0, .int .u8 0, .int .u8 0, .int .u8 0, .int .u8 0, .int .u8 0, .int .u8 0, .int .u8 0, .int .u8 0, .int .u8 0, .int .u8 0, .int .u8 0, .int .u8 0, .int .u8 0, .int .u8 0, .int .u8 0, .int .u8 0, .int .u8 0, .int .u8 0, .int .u8 0, .int .u8 0, .int .u8 0, .int .u8 0, .int .u8 0, .int .u8 0, .int .u8 0, .int .u8 0, .int .u8 0, .int .u8 0, .int .u8 0, .int .u8 0, .int .u8 0, .int .u8 0, .int .u8 0, .int .u8 0, .int .u8 0, .int .u8 0, .int .u8 0, .int .u8 0, .int .u8 0, .int .u8 0, .int .u8 0, .int .u8 0, .int .u8 0, .int .u8 0, .int .u8 0, .int .u8 0, .int .u8 0, .int .u8 0, .int .u8 0, .int .u8 0, .int .u8 0, .int .u8 0, .int .u8 0, .int .u8 0, .int .u8 0, .int .u8 0, .int .u8 0, .int .u8 0, .int .u8 0, .int .u8 0]
theorem z64_eq : u8s (zs 64) = z64 := rfl
theorem addP (b o i : Nat) : (⟨b, o, none⟩ : Addr).add i = ⟨b, o + i, none⟩ := by unfold Addr.add; split <;> simp_all
theorem slice_rest {P : Program} (t e : TypeId) (ht : P.underlying t = some (.slice e)) (he : (P.info? e).map (fun i => (i.zero, i.size, i.bytes)) = some (some (.int .u8 0), 1, 1)) (b o len c n : Nat) (h1 : n ≤ len) (_ : len ≤ c) (W : World) :
    (Instr.slice t (.slice (some ⟨b, o, none⟩) len c) (some (.int .i64 (n : Int))) none none).run P W = .ok (.slice (if c = n then some ⟨b, o, none⟩ else some ⟨b, o + n, none⟩) (len - n) (c - n)) W := by
  have e2 : P.elem t = e := by simp [Program.elem, ht]
  obtain ⟨i, hi, _, hs, _⟩ := info_parts he
  rw [run_slice_l W t _ _ _ (by rw [e2]; exact ht) .i64 n (by omega) (by omega), e2]
  simp [Go.sizeOf, typeInfo, hi, hs, Result.andThen, sliced]
  split
  · rfl
  · rw [addP]
theorem blockL_lt {n : Nat} {L : List Nat} (H : B8 n L) (j i : Nat) : (Obol.blockL L j).getD i 0 < 256 := by
  by_cases hi : i < 64
  · rw [Obol.blockL_get _ _ _ hi]; exact H.lt _
  · rw [List.getD_eq_getElem?_getD, List.getElem?_eq_none (by rw [Obol.blockL_len]; omega)]
    decide
theorem wordsB_len : ∀ l : List Nat, (Obol.wordsB l).length = 4 * l.length
  | [] => rfl
  | x :: l => by
    have := wordsB_len l
    unfold Obol.wordsB at *
    rw [List.flatMap_cons, List.length_append, this, List.length_cons]
    simp [Obol.bytes4]
    omega
theorem wordsB_take {l : List Nat} {i : Nat} (hi : i < l.length) : Obol.wordsB (l.take (i + 1)) = Obol.wordsB (l.take i) ++ Obol.bytes4 (l.getD i 0) := by
  unfold Obol.wordsB
  rw [List.take_add_one, List.getElem?_eq_getElem hi, List.flatMap_append, List.getD_eq_getElem?_getD, List.getElem?_eq_getElem hi]
  simp
theorem slice_zero {P : Program} (t e : TypeId) (ht : P.underlying t = some (.slice e)) (he : (P.info? e).map (fun i => (i.zero, i.size, i.bytes)) = some (some (.int .u8 0), 1, 1)) (ao : Option Addr) (c : Nat) :
    ∃ a2, (a2 = none → ao = none) ∧ ∀ W : World, (Instr.slice t (.slice ao 0 c) (some (.int .i64 0)) none none).run P W = .ok (.slice a2 0 c) W := by
  have e2 : P.elem t = e := by simp [Program.elem, ht]
  obtain ⟨i, hi, _, hs, _⟩ := info_parts he
  refine ⟨if c = 0 then ao else ao.map (·.add 0), (fun h => by split at h <;> simp_all), fun W => ?_⟩
  rw [run_slice_l W t _ _ _ (by rw [e2]; exact ht) .i64 0 (by omega) (by omega), e2]
  simp [Go.sizeOf, typeInfo, hi, hs, Result.andThen, sliced]
theorem block_nil (L : List Nat) (j : Nat) (h : L.length ≤ 64 * j) : Obol.blockL L j = zs 64 := by
  refine List.ext_getElem (by rw [Obol.blockL_len]; simp) fun i h1 h2 => ?_
  rw [Obol.blockL_len] at h1
  have := Obol.blockL_get L j i h1
  rw [List.getD_eq_getElem?_getD, List.getElem?_eq_getElem (by rw [Obol.blockL_len]; exact h1), List.getD_eq_getElem?_getD, List.getElem?_eq_none (by omega)] at this
  simpa using this

end Go.Proofs.Ytallfmiikjmgaaa
