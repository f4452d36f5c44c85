import Derived.Test.YtallfmiikjmgaaaMC
import Derived.Test.YtallfmiikjmgaaaMB
import Derived.Deep.CutBlock
import Derived.Deep.DeepCutAuto
import Derived.Deep.RegionHeld3
set_option linter.unusedVariables false
set_option linter.unusedSimpArgs false
/- Walks: package blake: a block is pressed. -/
namespace Obol

theorem W32.ext {n : Nat} {L L' : List Nat} (h : W32 n L) (h' : W32 n L') (e : ∀ j, j < n → L.getD j 0 = L'.getD j 0) : L = L' := by
  refine List.ext_getElem (by rw [h.len, h'.len]) fun j h1 h2 => ?_
  have := e j (by rw [← h.len]; exact h1)
  rw [List.getD_eq_getElem?_getD, List.getD_eq_getElem?_getD, List.getElem?_eq_getElem h1, List.getElem?_eq_getElem h2] at this
  exact this
theorem getD_set (L : List Nat) (i j z : Nat) (hi : i < L.length) : (L.set i z).getD j 0 = if i = j then z else L.getD j 0 := by
  rw [List.getD_eq_getElem?_getD, List.getElem?_set, List.getD_eq_getElem?_getD]
  split
  · rename_i h
    first | rfl | (rw [if_pos (by omega)]; rfl)
  · rfl
theorem wordAt_lt (B : List Nat) (h : ∀ i, B.getD i 0 < 256) (o : Nat) : wordAt B o < 4294967296 := by
  have h0 := h o
  have h1 := h (o + 1)
  have h2 := h (o + 2)
  have h3 := h (o + 3)
  unfold wordAt
  omega
theorem msgL_get (B : List Nat) (o j : Nat) (hj : j < 16) : (msgL B o).getD j 0 = wordAt B (o + 4 * j) := by
  unfold msgL
  rw [List.getD_eq_getElem?_getD, List.getElem?_map, List.getElem?_range hj]
  rfl
theorem msgL_w (B : List Nat) (h : ∀ i, B.getD i 0 < 256) (o : Nat) : W32 16 (msgL B o) := by
  refine ⟨by simp [msgL], fun i => ?_⟩
  by_cases hi : i < 16
  · rw [msgL_get B o i hi]; exact wordAt_lt B h _
  · have : (msgL B o).getD i 0 = 0 := by
      rw [List.getD_eq_getElem?_getD, List.getElem?_eq_none (by simp [msgL]; omega)]
      rfl
    omega

end Obol
namespace Go.Proofs.Ytallfmiikjmgaaa
open Go.RowKit

abbrev zs (n : Nat) : List Nat := List.replicate n 0
theorem zs_w (n : Nat) : Obol.W32 n (zs n) := ⟨by simp, fun i => by simp [List.getD_eq_getElem?_getD, List.getElem?_replicate]; split <;> simp⟩

section
end

/-- The message's first words. -/
def MsgI (B M : List Nat) (i : Int) : Prop := 0 ≤ i ∧ i ≤ 16 ∧ Obol.W32 16 M ∧ ∀ j : Nat, (j : Int) < i → M.getD j 0 = Obol.wordAt B (4 * j)
theorem MsgI.step {B M : List Nat} {i : Int} (h : MsgI B M i) (hB : ∀ i, B.getD i 0 < 256) (hi : i < 16) : MsgI B (M.set i.toNat (Obol.wordAt B (4 * i.toNat))) (i + 1) := by
  obtain ⟨h0, h1, h2, h3⟩ := h
  refine ⟨by omega, by omega, h2.set _ _ (Obol.wordAt_lt B hB _), fun j hj => ?_⟩
  rw [Obol.getD_set _ _ _ _ (by rw [h2.len]; omega)]
  split
  · rename_i e; rw [e]
  · exact h3 j (by omega)
theorem MsgI.done {B M : List Nat} (h : MsgI B M 16) (hB : ∀ i, B.getD i 0 < 256) : M = Obol.msgL B 0 :=
  h.2.2.1.ext (Obol.msgL_w B hB 0) fun j hj => by rw [h.2.2.2 j (by omega), Obol.msgL_get B 0 j hj, Nat.zero_add]
/-- The state's first words. -/
def StaI (h V : List Nat) (i : Int) : Prop := 0 ≤ i ∧ i ≤ 8 ∧ Obol.W32 16 V ∧ ∀ j : Nat, (j : Int) < i → V.getD j 0 = h.getD j 0 ∧ V.getD (8 + j) 0 = Obol.firstL.getD j 0
theorem first_w : Obol.W32 8 Obol.firstL := ⟨rfl, fun i => by
  have h : ∀ x ∈ Obol.firstL, x < 4294967296 := by decide
  rw [List.getD_eq_getElem?_getD]
  cases hi : Obol.firstL[i]? with
  | none => decide
  | some x => exact h x (List.mem_of_getElem? hi)⟩
theorem StaI.step {h V : List Nat} {i : Int} (hh : Obol.W32 8 h) (p : StaI h V i) (hi : i < 8) : StaI h ((V.set i.toNat (h.getD i.toNat 0)).set (8 + i.toNat) (Obol.firstL.getD i.toNat 0)) (i + 1) := by
  obtain ⟨h0, h1, h2, h3⟩ := p
  have w1 := h2.set i.toNat (h.getD i.toNat 0) (hh.lt _)
  refine ⟨by omega, by omega, w1.set _ _ (first_w.lt _), fun j hj => ?_⟩
  rw [Obol.getD_set _ _ _ _ (by rw [w1.len]; omega), Obol.getD_set _ _ _ _ (by rw [h2.len]; omega), Obol.getD_set _ _ _ _ (by rw [w1.len]; omega), Obol.getD_set _ _ _ _ (by rw [h2.len]; omega)]
  by_cases e : i.toNat = j
  · subst e
    rw [if_neg (by omega), if_pos rfl, if_pos rfl]
    exact ⟨rfl, rfl⟩
  · rw [if_neg (by omega), if_neg e, if_neg (by omega), if_neg (by omega)]
    exact h3 j (by omega)
theorem app_w {a b : List Nat} {n m : Nat} (ha : Obol.W32 n a) (hb : Obol.W32 m b) : Obol.W32 (n + m) (a ++ b) := by
  refine ⟨by rw [List.length_append, ha.len, hb.len], fun i => ?_⟩
  have h1 := ha.lt i
  have h2 := hb.lt (i - a.length)
  rw [List.getD_eq_getElem?_getD] at *
  rw [List.getElem?_append]
  split <;> assumption
theorem StaI.done {h V : List Nat} (hh : Obol.W32 8 h) (p : StaI h V 8) : V = h ++ Obol.firstL :=
  p.2.2.1.ext (app_w hh first_w) fun j hj => by
    rw [List.getD_eq_getElem?_getD (l := h ++ Obol.firstL), List.getElem?_append]
    split
    · rename_i hl
      rw [hh.len] at hl
      rw [(p.2.2.2 j (by omega)).1, List.getD_eq_getElem?_getD]
    · rename_i hl
      rw [hh.len] at hl ⊢
      have := (p.2.2.2 (j - 8) (by omega)).2
      rw [show 8 + (j - 8) = j by omega] at this
      rw [this, List.getD_eq_getElem?_getD]

theorem index_agg {P : Program} (t e : TypeId) (N : Nat) (L : List Nat) (H : Obol.W32 N L) (ht : P.underlying t = some (.array N e)) (hu : P.underlying e = some (.int .u32)) (he : (P.info? e).map (fun i => (i.zero, i.size, i.bytes)) = some (some (.int .u32 0), 1, 4)) {i : Int} (h0 : 0 ≤ i) (h1 : i < N) (W : World) :
    (Instr.index t (.agg (u32s L)) (.int .i64 i)).run P W = .ok (.int .u32 ((L.getD i.toNat 0 : Nat) : Int)) W := by
  obtain ⟨q, hi, _, hs, _⟩ := info_parts he
  have hx := u32s_at H h0 h1
  simp [Instr.index, asIntOf, isAgg, run_underlying ht, run_underlying hu, Go.sizeOf, typeInfo, hi, hs, Result.andThen, h0, h1, part, hx]
theorem slice_arr {P : Program} (t e : TypeId) (N : Nat) (ht : P.underlying t = some (.array N e)) (he : (P.info? e).map (fun i => (i.zero, i.size, i.bytes)) = some (some (.int .u8 0), 1, 1)) (b l : Nat) (h : l < N) (W : World) :
    (Instr.sliceAt t (.pointer (some ⟨b, 0, none⟩)) (some (.int .i64 (l : Int))) none none).run P W = .ok (.slice (some ⟨b, l, none⟩) (N - l) (N - l)) W := by
  have e1 : P.arrayLen t = N := by simp [Program.arrayLen, ht]
  have e2 : P.elem t = e := by simp [Program.elem, ht]
  obtain ⟨i, hi, _, hs, _⟩ := info_parts he
  rw [run_sliceAt_array_l W t ⟨b, 0, none⟩ (by rw [e1, e2]; exact ht) .i64 l (by omega) (by rw [e1]; omega), e1, e2]
  simp [Go.sizeOf, typeInfo, hi, hs, Result.andThen, slicedAt, Addr.add]
  rw [if_neg (by omega)]
  split
  · rename_i h0; rw [h0]
  · rfl
theorem info32 : (Try.prog.info? 65).map (fun i => (i.zero, i.size, i.bytes)) = some (some (.int .u32 0), 1, 4) := by kernel_rfl

theorem mixL_w {L : List Nat} (h : Obol.W32 16 L) (a b c d x y : Nat) : Obol.W32 16 (Obol.mixL L a b c d x y) := by
  have hA : ∀ {L : List Nat}, Obol.W32 16 L → ∀ a b x, Obol.W32 16 (Obol.sA L a b x) := fun h a b x => h.set _ _ (Obol.add3_lt _ _ _)
  have hC : ∀ {L : List Nat}, Obol.W32 16 L → ∀ c d, Obol.W32 16 (Obol.sC L c d) := fun h c d => h.set _ _ (Obol.add2_lt _ _)
  have hX : ∀ {L : List Nat}, Obol.W32 16 L → ∀ n t s, Obol.W32 16 (Obol.sX L n t s) := fun h n t s => h.set _ _ (Obol.rotW_lt _ _ (Obol.xor_lt (h.lt _) (h.lt _)))
  exact hX (hC (hX (hA (hX (hC (hX (hA h _ _ _) _ _ _) _ _) _ _ _) _ _ _) _ _ _) _ _) _ _ _

theorem wrap_small {x : Int} (h0 : 0 ≤ x) (h1 : x ≤ 9223372036854775807) : IntKind.i64.wrap x = x := by rw [IntKind.wrap_i64]; omega
/-- The rounds' rows, a package-level variable: block 0. -/
def RowsAt (w : World) : Prop := 0 < w.heap.size ∧ ∀ i k : Nat, i < 10 → k < 16 → w.cell? ⟨0, i * 16 + k, none⟩ = some (.int .i64 ((Obol.rowAt i k : Nat) : Int))
theorem RowsAt.below {w wr : World} (h : RowsAt w) (hb : Below w.heap.size w wr) : RowsAt wr := ⟨Nat.lt_of_lt_of_le h.1 hb.size, fun i k hi hk => (hb.cell (p := ⟨0, i * 16 + k, none⟩) h.1).trans (h.2 i k hi hk)⟩
theorem RowsAt.at {w : World} (h : RowsAt w) {i k : Int} (i0 : 0 ≤ i) (i1 : i < 10) (k0 : 0 ≤ k) (k1 : k < 16) :
    ∃ r : Int, w.cell? ⟨0, i.toNat * 16 + k.toNat, none⟩ = some (.int .i64 r) ∧ r = ((Obol.rowAt i.toNat k.toNat : Nat) : Int) ∧ 0 ≤ r ∧ r < 16 :=
  ⟨_, h.2 i.toNat k.toNat (by omega) (by omega), rfl, by omega, by have := Obol.rowAt_lt i.toNat k.toNat; omega⟩

def RndI (M VS V : List Nat) (i : Int) : Prop := 0 ≤ i ∧ i ≤ 10 ∧ V = Obol.rnds M i.toNat VS ∧ Obol.W32 16 V
def ColI (M : List Nat) (i : Int) (V U : List Nat) (k : Int) : Prop := 0 ≤ k ∧ k ≤ 4 ∧ U = Obol.cols M i.toNat k.toNat V ∧ Obol.W32 16 U
def DiaI (M : List Nat) (i : Int) (V U : List Nat) (k : Int) : Prop := 0 ≤ k ∧ k ≤ 4 ∧ U = Obol.dias M i.toNat k.toNat V ∧ Obol.W32 16 U
theorem ColI.step {M V U : List Nat} {i k : Int} (h : ColI M i V U k) (hk : k < 4) : ColI M i V (Obol.colMix M i.toNat k.toNat U) (k + 1) := by
  obtain ⟨h0, h1, h2, h3⟩ := h
  refine ⟨by omega, by omega, ?_, mixL_w h3 _ _ _ _ _ _⟩
  rw [show (k + 1).toNat = k.toNat + 1 by omega, h2]
  rfl
theorem DiaI.step {M V U : List Nat} {i k : Int} (h : DiaI M i V U k) (hk : k < 4) : DiaI M i V (Obol.diaMix M i.toNat k.toNat U) (k + 1) := by
  obtain ⟨h0, h1, h2, h3⟩ := h
  refine ⟨by omega, by omega, ?_, mixL_w h3 _ _ _ _ _ _⟩
  rw [show (k + 1).toNat = k.toNat + 1 by omega, h2]
  rfl
theorem RndI.step {M VS V U U' : List Nat} {i : Int} (h : RndI M VS V i) (hi : i < 10) (hc : ColI M i V U 4) (hd : DiaI M i U U' 4) : RndI M VS U' (i + 1) := by
  obtain ⟨h0, h1, h2, h3⟩ := h
  refine ⟨by omega, by omega, ?_, hd.2.2.2⟩
  rw [show (i + 1).toNat = i.toNat + 1 by omega, hd.2.2.1, hc.2.2.1, h2]
  rfl
theorem col_is {M U : List Nat} {i k r1 r2 x y : Int} (k0 : 0 ≤ k) (h1 : r1 = ((Obol.rowAt i.toNat (2 * k).toNat : Nat) : Int)) (h2 : r2 = ((Obol.rowAt i.toNat (2 * k + 1).toNat : Nat) : Int)) (hx : ((M.getD r1.toNat 0 : Nat) : Int) = x) (hy : ((M.getD r2.toNat 0 : Nat) : Int) = y) :
    Obol.mixL U k.toNat (4 + k).toNat (8 + k).toNat (12 + k).toNat x.toNat y.toNat = Obol.colMix M i.toNat k.toNat U := by
  subst hx hy h1 h2
  unfold Obol.colMix
  rw [Int.toNat_natCast, Int.toNat_natCast, Int.toNat_natCast, Int.toNat_natCast, show (4 + k).toNat = 4 + k.toNat by omega, show (8 + k).toNat = 8 + k.toNat by omega, show (12 + k).toNat = 12 + k.toNat by omega, show (2 * k).toNat = 2 * k.toNat by omega, show (2 * k + 1).toNat = 2 * k.toNat + 1 by omega]
theorem dia_is {M U : List Nat} {i k k1 k2 k3 r1 r2 x y : Int} (k0 : 0 ≤ k) (e1 : (k + 1) % 4 = k1) (e2 : (k + 2) % 4 = k2) (e3 : (k + 3) % 4 = k3) (h1 : r1 = ((Obol.rowAt i.toNat (8 + 2 * k).toNat : Nat) : Int)) (h2 : r2 = ((Obol.rowAt i.toNat (9 + 2 * k).toNat : Nat) : Int)) (hx : ((M.getD r1.toNat 0 : Nat) : Int) = x) (hy : ((M.getD r2.toNat 0 : Nat) : Int) = y) :
    Obol.mixL U k.toNat (4 + k1).toNat (8 + k2).toNat (12 + k3).toNat x.toNat y.toNat = Obol.diaMix M i.toNat k.toNat U := by
  subst hx hy h1 h2
  unfold Obol.diaMix
  rw [Int.toNat_natCast, Int.toNat_natCast, Int.toNat_natCast, Int.toNat_natCast, show (4 + k1).toNat = 4 + (k.toNat + 1) % 4 by omega, show (8 + k2).toNat = 8 + (k.toNat + 2) % 4 by omega, show (12 + k3).toNat = 12 + (k.toNat + 3) % 4 by omega, show (8 + 2 * k).toNat = 8 + 2 * k.toNat by omega, show (9 + 2 * k).toNat = 9 + 2 * k.toNat by omega]
theorem cells_next {w1 w2 : World} {b4 : Nat} {p q s u : Addr} {v1 v2 v3 v4 : Value} (hb : Below b4 w1 w2) (h : w1.cell? p = some v1 ∧ w1.cell? q = some v2 ∧ w1.cell? s = some v3 ∧ w1.cell? u = some v4) (hp : p.block < b4) (hq : q.block < b4) (hs : s.block < b4) (hu : u.block < b4) :
    w2.cell? p = some v1 ∧ w2.cell? q = some v2 ∧ w2.cell? s = some v3 ∧ w2.cell? u = some v4 :=
  ⟨(hb.cell hp).trans h.1, (hb.cell hq).trans h.2.1, (hb.cell hs).trans h.2.2.1, (hb.cell hu).trans h.2.2.2⟩
/-- The words' end. -/
def EndI (h v L : List Nat) (i : Int) : Prop := 0 ≤ i ∧ i ≤ 8 ∧ L = Obol.endV h v i.toNat h ∧ Obol.W32 8 L ∧ ∀ j : Nat, i ≤ (j : Int) → L.getD j 0 = h.getD j 0
theorem EndI.step {h v L : List Nat} {i : Int} (e : EndI h v L i) (hi : i < 8) {Z : Nat} (hz : Z = L.getD i.toNat 0 ^^^ (v.getD i.toNat 0 ^^^ v.getD (8 + i.toNat) 0)) (hZ : Z < 4294967296) : EndI h v (L.set i.toNat Z) (i + 1) := by
  obtain ⟨h0, h1, h2, h3, h4⟩ := e
  refine ⟨by omega, by omega, ?_, h3.set _ _ hZ, fun j hj => ?_⟩
  · rw [show (i + 1).toNat = i.toNat + 1 by omega, hz, h4 i.toNat (by omega)]
    show _ = (Obol.endV h v i.toNat h).set i.toNat _
    rw [← h2]
  · rw [Obol.getD_set _ _ _ _ (by rw [h3.len]; omega), if_neg (by omega)]
    exact h4 j (by omega)

end Go.Proofs.Ytallfmiikjmgaaa
