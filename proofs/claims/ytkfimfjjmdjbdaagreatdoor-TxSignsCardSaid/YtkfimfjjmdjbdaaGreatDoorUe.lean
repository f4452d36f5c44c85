import Derived.Test.YtkfimfjjmdjbdaaGreatDoorUc
import Derived.Test.YtkfimfjjmdjbdaaGreatDoorUd
import Derived.Deep.CutBlock
import Derived.Deep.DeepCutAuto
import Derived.Deep.RegionHeld3
set_option linter.unusedVariables false
set_option linter.unusedSimpArgs false
set_option linter.unusedSectionVars false
/- Walks: package blake: a block is pressed. -/
namespace Obol

theorem W32.ext {n : Nat} {L L' : List Nat} (h : W32 n L) (h' : W32 n L') (e : ∀ j, j < n → L.getD j 0 = L'.getD j 0) : L = L' := by
  refine List.ext_getElem (by rw [h.len, h'.len]) fun j h1 h2 => ?_
  have := e j (by rw [← h.len]; exact h1)
  rw [List.getD_eq_getElem?_getD, List.getD_eq_getElem?_getD, List.getElem?_eq_getElem h1, List.getElem?_eq_getElem h2] at this
  exact this
theorem getD_set (L : List Nat) (i j z : Nat) (hi : i < L.length) : (L.set i z).getD j 0 = if i = j then z else L.getD j 0 := by
  rw [List.getD_eq_getElem?_getD, List.getElem?_set, List.getD_eq_getElem?_getD]
  split
  · rename_i h
    first | rfl | (rw [if_pos (by omega)]; rfl)
  · rfl
theorem wordAt_lt (B : List Nat) (h : ∀ i, B.getD i 0 < 256) (o : Nat) : wordAt B o < 4294967296 := by
  have h0 := h o
  have h1 := h (o + 1)
  have h2 := h (o + 2)
  have h3 := h (o + 3)
  unfold wordAt
  omega
theorem msgL_get (B : List Nat) (o j : Nat) (hj : j < 16) : (msgL B o).getD j 0 = wordAt B (o + 4 * j) := by
  unfold msgL
  rw [List.getD_eq_getElem?_getD, List.getElem?_map, List.getElem?_range hj]
  rfl
theorem msgL_w (B : List Nat) (h : ∀ i, B.getD i 0 < 256) (o : Nat) : W32 16 (msgL B o) := by
  refine ⟨by simp [msgL], fun i => ?_⟩
  by_cases hi : i < 16
  · rw [msgL_get B o i hi]; exact wordAt_lt B h _
  · have : (msgL B o).getD i 0 = 0 := by
      rw [List.getD_eq_getElem?_getD, List.getElem?_eq_none (by simp [msgL]; omega)]
      rfl
    omega

end Obol
namespace Go.Proofs.YtkfimfjjmdjbdaaGreatDoor
open Go.RowKit

abbrev zs (n : Nat) : List Nat := List.replicate n 0
theorem zs_w (n : Nat) : Obol.W32 n (zs n) := ⟨by simp, fun i => by simp [List.getD_eq_getElem?_getD, List.getElem?_replicate]; split <;> simp⟩

/-- The five blocks of Press. -/
structure PR (w wr : World) (b0 b1 b2 b3 b4 : Nat) (h B M V : List Nat) : Prop where
  ord : w.heap.size = b0 ∧ b0 + 1 = b1 ∧ b1 + 1 = b2 ∧ b2 + 1 = b3 ∧ b3 + 1 = b4
  rh : Row wr b0 (u32s h) 96
  rb : Row wr b1 (u8s B) 117
  rr : Row wr b2 (u32s (zs 8)) 96
  rm : Row wr b3 (u32s M) 120
  rv : Row wr b4 (u32s V) 120
  bw : Below w.heap.size w wr
section
variable {w wr w2 : World} {b0 b1 b2 b3 b4 : Nat} {h B M V V' : List Nat} (p : PR w wr b0 b1 b2 b3 b4 h B M V)
include p
theorem PR.drewN (n : Nat) : PR w (wr.drewN n) b0 b1 b2 b3 b4 h B M V := ⟨p.ord, p.rh, p.rb, p.rr, p.rm, p.rv, bDrewN p.bw n⟩
theorem PR.drew : PR w wr.drew b0 b1 b2 b3 b4 h B M V := ⟨p.ord, p.rh, p.rb, p.rr, p.rm, p.rv, bDrew p.bw⟩
theorem PR.setM (i Z : Nat) {z : Int} (hz : z = (Z : Int)) : PR w (wr.setCell ⟨b3, i, none⟩ (.int .u32 z)) b0 b1 b2 b3 b4 h B (M.set i Z) V := by
  have o := p.ord
  exact ⟨o, p.rh.other (by omega), p.rb.other (by omega), p.rr.other (by omega), rowSet p.rm i Z hz, p.rv.other (by omega), bSet p.bw (by omega)⟩
theorem PR.setV (i Z : Nat) {z : Int} (hz : z = (Z : Int)) : PR w (wr.setCell ⟨b4, i, none⟩ (.int .u32 z)) b0 b1 b2 b3 b4 h B M (V.set i Z) := by
  have o := p.ord
  exact ⟨o, p.rh.other (by omega), p.rb.other (by omega), p.rr.other (by omega), p.rm.other (by omega), rowSet p.rv i Z hz, bSet p.bw (by omega)⟩
theorem PR.setH (i Z : Nat) {z : Int} (hz : z = (Z : Int)) : PR w (wr.setCell ⟨b0, i, none⟩ (.int .u32 z)) b0 b1 b2 b3 b4 (h.set i Z) B M V := by
  have o := p.ord
  exact ⟨o, rowSet p.rh i Z hz, p.rb.other (by omega), p.rr.other (by omega), p.rm.other (by omega), p.rv.other (by omega), bSet p.bw (by omega)⟩
theorem PR.mixV (hv : Row w2 b4 (u32s V') 120) (hb : Below b4 wr w2) : PR w w2 b0 b1 b2 b3 b4 h B M V' := by
  have o := p.ord
  exact ⟨o, p.rh.below hb (by omega), p.rb.below hb (by omega), p.rr.below hb (by omega), p.rm.below hb (by omega), hv, p.bw.trans (hb.mono (by omega))⟩
theorem PR.next (hb : Below wr.heap.size wr w2) : PR w w2 b0 b1 b2 b3 b4 h B M V :=
  ⟨p.ord, p.rh.below hb p.rh.lt, p.rb.below hb p.rb.lt, p.rr.below hb p.rr.lt, p.rm.below hb p.rm.lt, p.rv.below hb p.rv.lt, bThen p.bw hb p.bw.size⟩
end

/-- The message's first words. -/
def MsgI (B M : List Nat) (i : Int) : Prop := 0 ≤ i ∧ i ≤ 16 ∧ Obol.W32 16 M ∧ ∀ j : Nat, (j : Int) < i → M.getD j 0 = Obol.wordAt B (4 * j)
theorem MsgI.step {B M : List Nat} {i : Int} (h : MsgI B M i) (hB : ∀ i, B.getD i 0 < 256) (hi : i < 16) : MsgI B (M.set i.toNat (Obol.wordAt B (4 * i.toNat))) (i + 1) := by
  obtain ⟨h0, h1, h2, h3⟩ := h
  refine ⟨by omega, by omega, h2.set _ _ (Obol.wordAt_lt B hB _), fun j hj => ?_⟩
  rw [Obol.getD_set _ _ _ _ (by rw [h2.len]; omega)]
  split
  · rename_i e; rw [e]
  · exact h3 j (by omega)
theorem MsgI.done {B M : List Nat} (h : MsgI B M 16) (hB : ∀ i, B.getD i 0 < 256) : M = Obol.msgL B 0 :=
  h.2.2.1.ext (Obol.msgL_w B hB 0) fun j hj => by rw [h.2.2.2 j (by omega), Obol.msgL_get B 0 j hj, Nat.zero_add]
/-- The state's first words. -/
def StaI (h V : List Nat) (i : Int) : Prop := 0 ≤ i ∧ i ≤ 8 ∧ Obol.W32 16 V ∧ ∀ j : Nat, (j : Int) < i → V.getD j 0 = h.getD j 0 ∧ V.getD (8 + j) 0 = Obol.firstL.getD j 0
theorem first_w : Obol.W32 8 Obol.firstL := ⟨rfl, fun i => by
  have h : ∀ x ∈ Obol.firstL, x < 4294967296 := by decide
  rw [List.getD_eq_getElem?_getD]
  cases hi : Obol.firstL[i]? with
  | none => decide
  | some x => exact h x (List.mem_of_getElem? hi)⟩
theorem StaI.step {h V : List Nat} {i : Int} (hh : Obol.W32 8 h) (p : StaI h V i) (hi : i < 8) : StaI h ((V.set i.toNat (h.getD i.toNat 0)).set (8 + i.toNat) (Obol.firstL.getD i.toNat 0)) (i + 1) := by
  obtain ⟨h0, h1, h2, h3⟩ := p
  have w1 := h2.set i.toNat (h.getD i.toNat 0) (hh.lt _)
  refine ⟨by omega, by omega, w1.set _ _ (first_w.lt _), fun j hj => ?_⟩
  rw [Obol.getD_set _ _ _ _ (by rw [w1.len]; omega), Obol.getD_set _ _ _ _ (by rw [h2.len]; omega), Obol.getD_set _ _ _ _ (by rw [w1.len]; omega), Obol.getD_set _ _ _ _ (by rw [h2.len]; omega)]
  by_cases e : i.toNat = j
  · subst e
    rw [if_neg (by omega), if_pos rfl, if_pos rfl]
    exact ⟨rfl, rfl⟩
  · rw [if_neg (by omega), if_neg e, if_neg (by omega), if_neg (by omega)]
    exact h3 j (by omega)
theorem app_w {a b : List Nat} {n m : Nat} (ha : Obol.W32 n a) (hb : Obol.W32 m b) : Obol.W32 (n + m) (a ++ b) := by
  refine ⟨by rw [List.length_append, ha.len, hb.len], fun i => ?_⟩
  have h1 := ha.lt i
  have h2 := hb.lt (i - a.length)
  rw [List.getD_eq_getElem?_getD] at *
  rw [List.getElem?_append]
  split <;> assumption
theorem StaI.done {h V : List Nat} (hh : Obol.W32 8 h) (p : StaI h V 8) : V = h ++ Obol.firstL :=
  p.2.2.1.ext (app_w hh first_w) fun j hj => by
    rw [List.getD_eq_getElem?_getD (l := h ++ Obol.firstL), List.getElem?_append]
    split
    · rename_i hl
      rw [hh.len] at hl
      rw [(p.2.2.2 j (by omega)).1, List.getD_eq_getElem?_getD]
    · rename_i hl
      rw [hh.len] at hl ⊢
      have := (p.2.2.2 (j - 8) (by omega)).2
      rw [show 8 + (j - 8) = j by omega] at this
      rw [this, List.getD_eq_getElem?_getD]

theorem index_agg {P : Program} (t e : TypeId) (N : Nat) (L : List Nat) (H : Obol.W32 N L) (ht : P.underlying t = some (.array N e)) (hu : P.underlying e = some (.int .u32)) (he : (P.info? e).map (fun i => (i.zero, i.size, i.bytes)) = some (some (.int .u32 0), 1, 4)) {i : Int} (h0 : 0 ≤ i) (h1 : i < N) (W : World) :
    (Instr.index t (.agg (u32s L)) (.int .i64 i)).run P W = .ok (.int .u32 ((L.getD i.toNat 0 : Nat) : Int)) W := by
  obtain ⟨q, hi, _, hs, _⟩ := info_parts he
  have hx := u32s_at H h0 h1
  simp [Instr.index, asIntOf, isAgg, run_underlying ht, run_underlying hu, Go.sizeOf, typeInfo, hi, hs, Result.andThen, h0, h1, part, hx]
theorem slice_arr {P : Program} (t e : TypeId) (N : Nat) (ht : P.underlying t = some (.array N e)) (he : (P.info? e).map (fun i => (i.zero, i.size, i.bytes)) = some (some (.int .u8 0), 1, 1)) (b l : Nat) (h : l < N) (W : World) :
    (Instr.sliceAt t (.pointer (some ⟨b, 0, none⟩)) (some (.int .i64 (l : Int))) none none).run P W = .ok (.slice (some ⟨b, l, none⟩) (N - l) (N - l)) W := by
  have e1 : P.arrayLen t = N := by simp [Program.arrayLen, ht]
  have e2 : P.elem t = e := by simp [Program.elem, ht]
  obtain ⟨i, hi, _, hs, _⟩ := info_parts he
  rw [run_sliceAt_array_l W t ⟨b, 0, none⟩ (by rw [e1, e2]; exact ht) .i64 l (by omega) (by rw [e1]; omega), e1, e2]
  simp [Go.sizeOf, typeInfo, hi, hs, Result.andThen, slicedAt, Addr.add]
  rw [if_neg (by omega)]
  split
  · rename_i h0; rw [h0]
  · rfl
theorem info32 : (Tryz.prog.info? 88).map (fun i => (i.zero, i.size, i.bytes)) = some (some (.int .u32 0), 1, 4) := by kernel_rfl

theorem mixL_w {L : List Nat} (h : Obol.W32 16 L) (a b c d x y : Nat) : Obol.W32 16 (Obol.mixL L a b c d x y) := by
  have hA : ∀ {L : List Nat}, Obol.W32 16 L → ∀ a b x, Obol.W32 16 (Obol.sA L a b x) := fun h a b x => h.set _ _ (Obol.add3_lt _ _ _)
  have hC : ∀ {L : List Nat}, Obol.W32 16 L → ∀ c d, Obol.W32 16 (Obol.sC L c d) := fun h c d => h.set _ _ (Obol.add2_lt _ _)
  have hX : ∀ {L : List Nat}, Obol.W32 16 L → ∀ n t s, Obol.W32 16 (Obol.sX L n t s) := fun h n t s => h.set _ _ (Obol.rotW_lt _ _ (Obol.xor_lt (h.lt _) (h.lt _)))
  exact hX (hC (hX (hA (hX (hC (hX (hA h _ _ _) _ _ _) _ _) _ _ _) _ _ _) _ _ _) _ _) _ _ _

theorem wrap_small {x : Int} (h0 : 0 ≤ x) (h1 : x ≤ 9223372036854775807) : IntKind.i64.wrap x = x := by rw [IntKind.wrap_i64]; omega
/-- The rounds' rows, a package-level variable: block 0. -/
def RowsAt (w : World) : Prop := 0 < w.heap.size ∧ ∀ i k : Nat, i < 10 → k < 16 → w.cell? ⟨0, i * 16 + k, none⟩ = some (.int .i64 ((Obol.rowAt i k : Nat) : Int))
theorem RowsAt.below {w wr : World} (h : RowsAt w) (hb : Below w.heap.size w wr) : RowsAt wr := ⟨Nat.lt_of_lt_of_le h.1 hb.size, fun i k hi hk => (hb.cell (p := ⟨0, i * 16 + k, none⟩) h.1).trans (h.2 i k hi hk)⟩
theorem RowsAt.at {w : World} (h : RowsAt w) {i k : Int} (i0 : 0 ≤ i) (i1 : i < 10) (k0 : 0 ≤ k) (k1 : k < 16) :
    ∃ r : Int, w.cell? ⟨0, i.toNat * 16 + k.toNat, none⟩ = some (.int .i64 r) ∧ r = ((Obol.rowAt i.toNat k.toNat : Nat) : Int) ∧ 0 ≤ r ∧ r < 16 :=
  ⟨_, h.2 i.toNat k.toNat (by omega) (by omega), rfl, by omega, by have := Obol.rowAt_lt i.toNat k.toNat; omega⟩

def RndI (M VS V : List Nat) (i : Int) : Prop := 0 ≤ i ∧ i ≤ 10 ∧ V = Obol.rnds M i.toNat VS ∧ Obol.W32 16 V
def ColI (M : List Nat) (i : Int) (V U : List Nat) (k : Int) : Prop := 0 ≤ k ∧ k ≤ 4 ∧ U = Obol.cols M i.toNat k.toNat V ∧ Obol.W32 16 U
def DiaI (M : List Nat) (i : Int) (V U : List Nat) (k : Int) : Prop := 0 ≤ k ∧ k ≤ 4 ∧ U = Obol.dias M i.toNat k.toNat V ∧ Obol.W32 16 U
theorem ColI.step {M V U : List Nat} {i k : Int} (h : ColI M i V U k) (hk : k < 4) : ColI M i V (Obol.colMix M i.toNat k.toNat U) (k + 1) := by
  obtain ⟨h0, h1, h2, h3⟩ := h
  refine ⟨by omega, by omega, ?_, mixL_w h3 _ _ _ _ _ _⟩
  rw [show (k + 1).toNat = k.toNat + 1 by omega, h2]
  rfl
theorem DiaI.step {M V U : List Nat} {i k : Int} (h : DiaI M i V U k) (hk : k < 4) : DiaI M i V (Obol.diaMix M i.toNat k.toNat U) (k + 1) := by
  obtain ⟨h0, h1, h2, h3⟩ := h
  refine ⟨by omega, by omega, ?_, mixL_w h3 _ _ _ _ _ _⟩
  rw [show (k + 1).toNat = k.toNat + 1 by omega, h2]
  rfl
theorem RndI.step {M VS V U U' : List Nat} {i : Int} (h : RndI M VS V i) (hi : i < 10) (hc : ColI M i V U 4) (hd : DiaI M i U U' 4) : RndI M VS U' (i + 1) := by
  obtain ⟨h0, h1, h2, h3⟩ := h
  refine ⟨by omega, by omega, ?_, hd.2.2.2⟩
  rw [show (i + 1).toNat = i.toNat + 1 by omega, hd.2.2.1, hc.2.2.1, h2]
  rfl
theorem col_is {M U : List Nat} {i k r1 r2 x y : Int} (k0 : 0 ≤ k) (h1 : r1 = ((Obol.rowAt i.toNat (2 * k).toNat : Nat) : Int)) (h2 : r2 = ((Obol.rowAt i.toNat (2 * k + 1).toNat : Nat) : Int)) (hx : ((M.getD r1.toNat 0 : Nat) : Int) = x) (hy : ((M.getD r2.toNat 0 : Nat) : Int) = y) :
    Obol.mixL U k.toNat (4 + k).toNat (8 + k).toNat (12 + k).toNat x.toNat y.toNat = Obol.colMix M i.toNat k.toNat U := by
  subst hx hy h1 h2
  unfold Obol.colMix
  rw [Int.toNat_natCast, Int.toNat_natCast, Int.toNat_natCast, Int.toNat_natCast, show (4 + k).toNat = 4 + k.toNat by omega, show (8 + k).toNat = 8 + k.toNat by omega, show (12 + k).toNat = 12 + k.toNat by omega, show (2 * k).toNat = 2 * k.toNat by omega, show (2 * k + 1).toNat = 2 * k.toNat + 1 by omega]
theorem dia_is {M U : List Nat} {i k k1 k2 k3 r1 r2 x y : Int} (k0 : 0 ≤ k) (e1 : (k + 1) % 4 = k1) (e2 : (k + 2) % 4 = k2) (e3 : (k + 3) % 4 = k3) (h1 : r1 = ((Obol.rowAt i.toNat (8 + 2 * k).toNat : Nat) : Int)) (h2 : r2 = ((Obol.rowAt i.toNat (9 + 2 * k).toNat : Nat) : Int)) (hx : ((M.getD r1.toNat 0 : Nat) : Int) = x) (hy : ((M.getD r2.toNat 0 : Nat) : Int) = y) :
    Obol.mixL U k.toNat (4 + k1).toNat (8 + k2).toNat (12 + k3).toNat x.toNat y.toNat = Obol.diaMix M i.toNat k.toNat U := by
  subst hx hy h1 h2
  unfold Obol.diaMix
  rw [Int.toNat_natCast, Int.toNat_natCast, Int.toNat_natCast, Int.toNat_natCast, show (4 + k1).toNat = 4 + (k.toNat + 1) % 4 by omega, show (8 + k2).toNat = 8 + (k.toNat + 2) % 4 by omega, show (12 + k3).toNat = 12 + (k.toNat + 3) % 4 by omega, show (8 + 2 * k).toNat = 8 + 2 * k.toNat by omega, show (9 + 2 * k).toNat = 9 + 2 * k.toNat by omega]
theorem cells_next {w1 w2 : World} {b4 : Nat} {p q s u : Addr} {v1 v2 v3 v4 : Value} (hb : Below b4 w1 w2) (h : w1.cell? p = some v1 ∧ w1.cell? q = some v2 ∧ w1.cell? s = some v3 ∧ w1.cell? u = some v4) (hp : p.block < b4) (hq : q.block < b4) (hs : s.block < b4) (hu : u.block < b4) :
    w2.cell? p = some v1 ∧ w2.cell? q = some v2 ∧ w2.cell? s = some v3 ∧ w2.cell? u = some v4 :=
  ⟨(hb.cell hp).trans h.1, (hb.cell hq).trans h.2.1, (hb.cell hs).trans h.2.2.1, (hb.cell hu).trans h.2.2.2⟩
/-- The words' end. -/
def EndI (h v L : List Nat) (i : Int) : Prop := 0 ≤ i ∧ i ≤ 8 ∧ L = Obol.endV h v i.toNat h ∧ Obol.W32 8 L ∧ ∀ j : Nat, i ≤ (j : Int) → L.getD j 0 = h.getD j 0
theorem EndI.step {h v L : List Nat} {i : Int} (e : EndI h v L i) (hi : i < 8) {Z : Nat} (hz : Z = L.getD i.toNat 0 ^^^ (v.getD i.toNat 0 ^^^ v.getD (8 + i.toNat) 0)) (hZ : Z < 4294967296) : EndI h v (L.set i.toNat Z) (i + 1) := by
  obtain ⟨h0, h1, h2, h3, h4⟩ := e
  refine ⟨by omega, by omega, ?_, h3.set _ _ hZ, fun j hj => ?_⟩
  · rw [show (i + 1).toNat = i.toNat + 1 by omega, hz, h4 i.toNat (by omega)]
    show _ = (Obol.endV h v i.toNat h).set i.toNat _
    rw [← h2]
  · rw [Obol.getD_set _ _ _ _ (by rw [h3.len]; omega), if_neg (by omega)]
    exact h4 j (by omega)

set_option maxRecDepth 8000 in
set_option maxHeartbeats 2000000 in
theorem bPress (h B : List Nat) (Hh : Obol.W32 8 h) (HB : B8 64 B) (count : Int) (k0 : 0 ≤ count) (k1 : count ≤ 18446744073709551615) (last : Bool) (w : World) (hG : RowsAt w) :
    Calls Tryz.prog 78 #[.agg (u32s h), .agg (u8s B), .int .u64 count, .bool last] w fun e w' => e = .returned (.agg (u32s (Obol.pressL h (Obol.msgL B 0) count.toNat last))) ∧ Below w.heap.size w w' := by
  have Hh := Lib.hid Hh
  have HB := Lib.hid HB
  have hG := Lib.hid hG
  go_enter Tryz.func78, Tryz.ntmps78
  go_wp2_with fail
  have P : PR w _ w.heap.size (w.heap.size + 1) (w.heap.size + 1 + 1) (w.heap.size + 1 + 1 + 1) (w.heap.size + 1 + 1 + 1 + 1) h B (zs 16) (zs 16) :=
    ⟨⟨rfl, rfl, rfl, rfl, rfl⟩, ((((Row.new w (u32s h) 96).alloc (.cells (u8s B) 117)).alloc (.cells (u32s (zs 8)) 96)).alloc (.cells (u32s (zs 16)) 120)).alloc (.cells (u32s (zs 16)) 120),
      (((Row.newAt (u8s B) 117 (by simp)).alloc (.cells (u32s (zs 8)) 96)).alloc (.cells (u32s (zs 16)) 120)).alloc (.cells (u32s (zs 16)) 120),
      ((Row.newAt (u32s (zs 8)) 96 (by simp)).alloc (.cells (u32s (zs 16)) 120)).alloc (.cells (u32s (zs 16)) 120),
      (Row.newAt (u32s (zs 16)) 120 (by simp)).alloc (.cells (u32s (zs 16)) 120), Row.newAt (u32s (zs 16)) 120 (by simp),
      bAlloc (bAlloc (bAlloc (bAlloc (bAlloc (Below.refl _ w) _) _) _) _) _⟩
  change Code.wp _ _ _ _ (((((w.alloc (.cells (u32s h) 96)).alloc (.cells (u8s B) 117)).alloc (.cells (u32s (zs 8)) 96)).alloc (.cells (u32s (zs 16)) 120)).alloc (.cells (u32s (zs 16)) 120))
  replace P := Lib.hid P
  generalize ((((w.alloc (.cells (u32s h) 96)).alloc (.cells (u8s B) 117)).alloc (.cells (u32s (zs 8)) 96)).alloc (.cells (u32s (zs 16)) 120)).alloc (.cells (u32s (zs 16)) 120) = w0 at P ⊢
  generalize w.heap.size + 1 + 1 + 1 + 1 = b4 at P ⊢
  generalize w.heap.size + 1 + 1 + 1 = b3 at P ⊢
  generalize w.heap.size + 1 + 1 = b2 at P ⊢
  generalize w.heap.size + 1 = b1 at P ⊢
  obtain ⟨b0, hb0⟩ : ∃ b, w.heap.size = b := ⟨_, rfl⟩
  have P : Hid (PR w w0 b0 b1 b2 b3 b4 h B (zs 16) (zs 16)) := Lib.hid (hb0 ▸ P.out)
  rw [hb0]
  replace hb0 := Lib.hid hb0
  go_loopw [18] (fun q1 wr => ∃ (i : Int) (M : List Nat), q1 = .int .i64 i ∧ Hid (MsgI B M i) ∧ Hid (PR w wr b0 b1 b2 b3 b4 h B M (zs 16))) (fun q1 _ => (16 - intOf q1).toNat)
  case atStart => exact ⟨0, zs 16, rfl, Lib.hid ⟨by omega, by omega, zs_w 16, fun j hj => by omega⟩, P⟩
  case round =>
    clear P
    obtain ⟨i, M, rfl, HI, P⟩ := hrel
    have i0 := HI.out.1
    have i1 := HI.out.2.1
    by_cases hi : i < 16
    · have HN := Lib.hid (HI.out.step HB.out.lt hi)
      have hf := P.out.rm.free i.toNat
      have hcw := fun wr (p : PR w wr b0 b1 b2 b3 b4 h B M (zs 16)) => bWordAt b1 0 (4 * i.toNat) (4 * i.toNat) (64 - 4 * i.toNat) (64 - 4 * i.toNat) B 64 HB.out (by omega) (by omega) (by omega) (by omega) wr p.rb.bl
      have PN := fun wr (p : PR w wr b0 b1 b2 b3 b4 h B M (zs 16)) => p.setM i.toNat (Obol.wordAt B (4 * i.toNat)) (z := ((Obol.wordAt B (4 * i.toNat) : Nat) : Int)) rfl
      generalize Obol.wordAt B (4 * i.toNat) = z at HN hcw PN
      have hsl := fun W => slice_arr (P := Tryz.prog) 117 5 64 Tryz.underlying117 info8 b1 (4 * i.toNat) (by omega) W
      rw [show ((4 * i.toNat : Nat) : Int) = 4 * i by omega] at hsl
      replace hcw := Lib.hid hcw
      replace PN := Lib.hid PN
      have hf2 : ∀ n, (wr.drewN n).frozen? ⟨b3, i.toNat, none⟩ = false := fun n => hf
      have hc2 := P.out.rm.cell i.toNat (u32s_at HI.out.2.2.1 i0 hi)
      go_wp2_with (go_at_call 51; refine (hcw.out _ P.out).mono ?_; rintro e w2 ⟨rfl, n, rfl⟩)
      have PN2 := Lib.hid (PN.out _ (P.out.drewN n))
      go_roundw
      case rel => exact ⟨_, _, rfl, HN, PN2⟩
      case measure => simp [intOf]; omega
    · obtain rfl : i = 16 := by omega
      obtain rfl := HI.out.done HB.out.lt
      clear HI
      have HM : Hid (Obol.W32 16 (Obol.msgL B 0)) := Lib.hid (Obol.msgL_w B HB.out.lt 0)
      obtain ⟨M, hM0⟩ : ∃ M, Obol.msgL B 0 = M := ⟨_, rfl⟩
      have HM0 := Lib.hid hM0
      rw [hM0] at P HM
      clear hM0
      go_wp2_with fail
      refine (bFirst _).mono ?_
      rintro e w2 ⟨rfl, hb2⟩
      replace P := Lib.hid (P.out.next hb2)
      clear hb2
      go_wp2_with fail
      go_loopw [29] (fun q1 wr => ∃ (i : Int) (V : List Nat), q1 = .int .i64 i ∧ Hid (StaI h V i) ∧ Hid (PR w wr b0 b1 b2 b3 b4 h B M V)) (fun q1 _ => (8 - intOf q1).toNat)
      case atStart => exact ⟨0, zs 16, rfl, Lib.hid ⟨by omega, by omega, zs_w 16, fun j hj => by omega⟩, P⟩
      case round =>
        clear P
        obtain ⟨i, V, rfl, HI, P⟩ := hrel
        have i0 := HI.out.1
        have i1 := HI.out.2.1
        by_cases hi : i < 8
        · have HN := Lib.hid (HI.out.step Hh.out hi)
          obtain ⟨vh, eh, lh, uh⟩ := word_at Hh.out (i := i) i0 (by omega)
          obtain ⟨vf, ef, lf, uf⟩ := word_at first_w (i := i) i0 (by omega)
          have hix := fun W => index_agg (P := Tryz.prog) 96 88 8 Obol.firstL first_w Tryz.underlying96 Tryz.underlying88 info32 i0 hi W
          rw [ef] at hix
          have hc0 : wr.cell? ⟨b0, i.toNat, none⟩ = some (.int .u32 vh) := P.out.rh.cell i.toNat ((u32s_at Hh.out i0 hi).trans (by rw [eh]))
          have hf1 := P.out.rv.free i.toNat
          have hf2 := P.out.rv.free (8 + i.toNat)
          have hc1 := P.out.rv.cell i.toNat (u32s_at HI.out.2.2.1 i0 (by omega))
          have hc2 := P.out.rv.cell (8 + i.toNat) (u32s_get HI.out.2.2.1 (8 + i.toNat) (by omega))
          have PN := Lib.hid ((P.out.setV i.toNat _ eh.symm).setV (8 + i.toNat) _ ef.symm)
          have e8 : 8 + i.toNat = (8 + i).toNat := by omega
          rw [e8] at hf2 hc2 PN HN
          clear eh ef e8
          go_wp2_with fail
          go_roundw
          case rel => exact ⟨_, _, rfl, HN, PN⟩
          case measure => simp [intOf]; omega
        · obtain rfl : i = 8 := by omega
          obtain rfl := HI.out.done Hh.out
          clear HI
          have HV := Lib.hid (app_w Hh.out first_w)
          obtain ⟨V0, hV0⟩ : ∃ l, l = h ++ Obol.firstL := ⟨_, rfl⟩
          rw [← hV0] at P HV
          -- the counter
          obtain ⟨q12, e12, l12, u12⟩ := word_at HV.out (i := 12) (by omega) (by omega)
          have c12 : wr.cell? ⟨b4, 12, none⟩ = some (.int .u32 q12) := P.out.rv.cell 12 ((u32s_get HV.out 12 (by omega)).trans (by rw [← e12]; rfl))
          have f12 := P.out.rv.free 12
          have hx12 := xor_eq e12 (q := count % 4294967296) (Q := count.toNat % 4294967296) (by omega) (HV.out.lt _) (by omega)
          obtain ⟨z12, hz12⟩ : ∃ z : Int, bits .xor .u32 q12 (count % 4294967296) = z := ⟨_, rfl⟩
          rw [hz12] at hx12
          obtain ⟨V1, hV1⟩ : ∃ l, l = V0.set 12 (V0.getD 12 0 ^^^ count.toNat % 4294967296) := ⟨_, rfl⟩
          have P1 := Lib.hid (P.out.setV 12 _ hx12)
          have HV1 := Lib.hid (HV.out.set 12 _ (Obol.xor_lt (HV.out.lt 12) (Nat.mod_lt count.toNat (by decide : 4294967296 > 0))))
          rw [show (12 : Int).toNat = 12 from rfl, ← hV1] at P1
          rw [← hV1] at HV1
          obtain ⟨q13, e13, l13, u13⟩ := word_at HV1.out (i := 13) (by omega) (by omega)
          have c13 : (wr.setCell ⟨b4, 12, none⟩ (.int .u32 z12)).cell? ⟨b4, 13, none⟩ = some (.int .u32 q13) := P1.out.rv.cell 13 ((u32s_get HV1.out 13 (by omega)).trans (by rw [← e13]; rfl))
          have f13 := P1.out.rv.free 13
          replace P1 := Lib.hid P1
          replace HV1 := Lib.hid HV1
          have hx13 := xor_eq e13 (q := count / 4294967296) (Q := count.toNat / 4294967296 % 4294967296) (by omega) (HV1.out.lt _) (by omega)
          obtain ⟨z13, hz13⟩ : ∃ z : Int, bits .xor .u32 q13 (count / 4294967296) = z := ⟨_, rfl⟩
          rw [hz13] at hx13
          obtain ⟨V2, hV2⟩ : ∃ l, l = V1.set 13 (V1.getD 13 0 ^^^ count.toNat / 4294967296 % 4294967296) := ⟨_, rfl⟩
          have P2 := Lib.hid (P1.out.setV 13 _ hx13)
          have HV2 := Lib.hid (HV1.out.set 13 _ (Obol.xor_lt (HV1.out.lt 13) (Nat.mod_lt (count.toNat / 4294967296) (by decide : 4294967296 > 0))))
          rw [show (13 : Int).toNat = 13 from rfl, ← hV2] at P2
          rw [← hV2] at HV2
          have hC : Hid (V2 = Obol.count12 (h ++ Obol.firstL) count.toNat) := Lib.hid (by rw [← hV0]; unfold Obol.count12; rw [← hV1]; exact hV2)
          obtain ⟨q14, e14, l14, u14⟩ := word_at HV2.out (i := 14) (by omega) (by omega)
          have c14 : ((wr.setCell ⟨b4, 12, none⟩ (.int .u32 z12)).setCell ⟨b4, 13, none⟩ (.int .u32 z13)).cell? ⟨b4, 14, none⟩ = some (.int .u32 q14) := P2.out.rv.cell 14 ((u32s_get HV2.out 14 (by omega)).trans (by rw [← e14]; rfl))
          have f14 := P2.out.rv.free 14
          clear hx12 e12 hx13 e13 hV0 hV1 hV2 HV1 P1 HV P
          go_upto_if 56 with fail
          go_cut [] (fun wc => ∃ V, Hid (V = Obol.startV h count.toNat last ∧ Obol.W32 16 V) ∧ Hid (PR w wc b0 b1 b2 b3 b4 h B M V))
          case first =>
            cases last
            · go_wp2_with fail
              go_meet
              exact ⟨V2, Lib.hid ⟨by rw [hC.out]; rfl, HV2.out⟩, P2⟩
            · have hx14 : bits .xor .u32 IntKind.u32.max q14 = ((V2.getD 14 0 ^^^ 4294967295 : Nat) : Int) := by
                have h := xor_eq (p := 4294967295) (q := q14) (P := 4294967295) (Q := V2.getD 14 0) rfl (by rw [← e14]; rfl) (by decide) (HV2.out.lt _)
                rw [Nat.xor_comm] at h
                exact h
              have P3 := Lib.hid (P2.out.setV 14 _ hx14)
              have HV3 := Lib.hid (HV2.out.set 14 _ (Obol.xor_lt (HV2.out.lt 14) (by decide : 4294967295 < 4294967296)))
              have hS : Hid (V2.set 14 (V2.getD 14 0 ^^^ 4294967295) = Obol.startV h count.toNat true) := Lib.hid (by unfold Obol.startV; rw [← hC.out]; rfl)
              clear hx14 e14
              go_wp2_with fail
              go_meet
              exact ⟨_, Lib.hid ⟨hS.out, HV3.out⟩, P3⟩
          case' rest =>
            clear P2 HV2 hC e14 c12 f12 c13 f13 c14 f14 hz12 hz13
            rename World => wz
            obtain ⟨VS, HS, P⟩ := hcut
            have HV2 := Lib.hid HS.out.2
          go_wp2_with fail
          go_loopw [61] (fun q1 wr => ∃ (i : Int) (V : List Nat), q1 = .int .i64 i ∧ Hid (RndI M VS V i) ∧ Hid (PR w wr b0 b1 b2 b3 b4 h B M V)) (fun q1 _ => (10 - intOf q1).toNat)
          case atStart => exact ⟨0, VS, rfl, Lib.hid ⟨by omega, by omega, rfl, HV2.out⟩, P⟩
          case round =>
            clear P HV2
            obtain ⟨i, V, rfl, HI, P⟩ := hrel
            have i0 := HI.out.1
            have i1 := HI.out.2.1
            by_cases hi : i < 10
            · go_wp2_with fail
              go_loopw [64] (fun q1 wr => ∃ (k : Int) (U : List Nat), q1 = .int .i64 k ∧ Hid (ColI M i V U k) ∧ Hid (PR w wr b0 b1 b2 b3 b4 h B M U)) (fun q1 _ => (4 - intOf q1).toNat)
              case atStart => exact ⟨0, V, rfl, Lib.hid ⟨by omega, by omega, rfl, HI.out.2.2.2⟩, P⟩
              case round =>
                clear P
                obtain ⟨k, U, rfl, HK, PU⟩ := hrel
                have k0 := HK.out.1
                have k9 := HK.out.2.1
                by_cases hk : k < 4
                · obtain ⟨r1, g1, er1, r10, r11⟩ := (hG.out.below PU.out.bw).at i0 hi (k := 2 * k) (by omega) (by omega)
                  obtain ⟨r2, g2, er2, r20, r21⟩ := (hG.out.below PU.out.bw).at i0 hi (k := 2 * k + 1) (by omega) (by omega)
                  obtain ⟨x, ex, x0, x1⟩ := word_at HM.out (i := r1) r10 (by omega)
                  obtain ⟨y, ey, y0, y1⟩ := word_at HM.out (i := r2) r20 (by omega)
                  have g3 : wr.cell? ⟨b3, r1.toNat, none⟩ = some (.int .u32 x) := PU.out.rm.cell r1.toNat ((u32s_at HM.out r10 (by omega)).trans (by rw [ex]))
                  have g4 : wr.cell? ⟨b3, r2.toNat, none⟩ = some (.int .u32 y) := PU.out.rm.cell r2.toNat ((u32s_at HM.out r20 (by omega)).trans (by rw [ey]))
                  have cM := fun wq (R : Row wq b4 (u32s U) 120) => bMix b4 k (4 + k) (8 + k) (12 + k) k0 (by omega) (by omega) (by omega) (by omega) (by omega) (by omega) (by omega) x y x0 y0 U HK.out.2.2.2 wq R
                  rw [col_is k0 er1 er2 ex ey] at cM
                  have HN := Lib.hid (HK.out.step hk)
                  have w0 := wrap_small (x := 2 * k) (by omega) (by omega)
                  have w1 := wrap_small (x := 2 * k + 1) (by omega) (by omega)
                  have w2 := wrap_small (x := 4 + k) (by omega) (by omega)
                  have w3 := wrap_small (x := 8 + k) (by omega) (by omega)
                  have w4 := wrap_small (x := 12 + k) (by omega) (by omega)
                  have b10a : (0 : Int) ≤ 2 * k := by omega
                  have b10b : 2 * k < 16 := by omega
                  have b11a : (0 : Int) ≤ 2 * k + 1 := by omega
                  have b11b : 2 * k + 1 < 16 := by omega
                  have h3b : b3 < b4 := by have := PU.out.ord; omega
                  have h0b : 0 < b4 := by omega
                  replace cM := Lib.hid cM
                  clear er1 er2 ex ey
                  go_wp2_with fail
                  refine wp_region_noPanic ?_
                  refine wp_region_held_drew (S := fun w' => w'.cell? ⟨0, i.toNat * 16 + (2 * k).toNat, none⟩ = some (.int .i64 r1) ∧ w'.cell? ⟨0, i.toNat * 16 + (2 * k + 1).toNat, none⟩ = some (.int .i64 r2) ∧ w'.cell? ⟨b3, r1.toNat, none⟩ = some (.int .u32 x) ∧ w'.cell? ⟨b3, r2.toNat, none⟩ = some (.int .u32 y)) (by kernel_rfl) ?_ (fun hHeld => ?_)
                  · exact ⟨g1, g2, g3, g4⟩
                  refine tk 0 hHeld ?_; refine tk 1 hHeld ?_; refine tk 2 hHeld ?_; refine tk 3 hHeld ?_; refine tk 4 hHeld ?_; refine tk 5 hHeld ?_; refine tk 6 hHeld ?_; refine tk 7 hHeld ?_; refine tk 8 hHeld ?_; refine tk 9 hHeld ?_; refine tk 10 hHeld ?_; refine tk 11 hHeld ?_; refine tk 12 hHeld ?_; refine tk 13 hHeld ?_; refine tk 14 hHeld ?_; refine tk 15 hHeld ?_; refine tk 16 hHeld ?_; refine tk 17 hHeld ?_; refine tk 18 hHeld ?_; refine tk 19 hHeld ?_; refine tk 20 hHeld ?_; refine tk 21 hHeld ?_; refine tk 22 hHeld ?_; refine tk 23 hHeld ?_
                  refine stepH 24 (by kernel_rfl) rfl (by rfl) (fun K hK => ?_)
                  go_simp
                  refine (cM.out _ (PU.out.drew).rv).mono ?_
                  rintro e w3 ⟨rfl, hR, hb⟩
                  have PN := Lib.hid (PU.out.drew.mixV hR hb)
                  refine hK.out _ _ ?_ (fun hHeld => ?_)
                  · exact cells_next hb hHeld h0b h0b h3b h3b
                  clear hK K
                  try simp only [Act.put, List.setIfInBounds_toArray, List.set_cons_zero, List.set_cons_succ]
                  refine wpAnyH_done (by kernel_rfl) (NoPanic.normal ?_) _
                  go_wp2
                  go_roundw
                  case rel => exact ⟨_, _, rfl, HN, PN⟩
                  case measure => simp [intOf]; omega
                · obtain rfl : k = 4 := by omega
                  go_wp2_with fail
                  clear k0 k9 hk
                  go_loopw [93] (fun q1 wr => ∃ (k : Int) (U' : List Nat), q1 = .int .i64 k ∧ Hid (DiaI M i U U' k) ∧ Hid (PR w wr b0 b1 b2 b3 b4 h B M U')) (fun q1 _ => (4 - intOf q1).toNat)
                  case atStart => exact ⟨0, U, rfl, Lib.hid ⟨by omega, by omega, rfl, HK.out.2.2.2⟩, PU⟩
                  case round =>
                    clear PU
                    obtain ⟨k, UD, rfl, HD, PD⟩ := hrel
                    have k0 := HD.out.1
                    have k9 := HD.out.2.1
                    by_cases hk : k < 4
                    · obtain ⟨r1, g1, er1, r10, r11⟩ := (hG.out.below PD.out.bw).at i0 hi (k := 8 + 2 * k) (by omega) (by omega)
                      obtain ⟨r2, g2, er2, r20, r21⟩ := (hG.out.below PD.out.bw).at i0 hi (k := 9 + 2 * k) (by omega) (by omega)
                      obtain ⟨x, ex, x0, x1⟩ := word_at HM.out (i := r1) r10 (by omega)
                      obtain ⟨y, ey, y0, y1⟩ := word_at HM.out (i := r2) r20 (by omega)
                      have g3 : wr.cell? ⟨b3, r1.toNat, none⟩ = some (.int .u32 x) := PD.out.rm.cell r1.toNat ((u32s_at HM.out r10 (by omega)).trans (by rw [ex]))
                      have g4 : wr.cell? ⟨b3, r2.toNat, none⟩ = some (.int .u32 y) := PD.out.rm.cell r2.toNat ((u32s_at HM.out r20 (by omega)).trans (by rw [ey]))
                      obtain ⟨k1, e1⟩ : ∃ z : Int, (k + 1) % 4 = z := ⟨_, rfl⟩
                      obtain ⟨k2, e2⟩ : ∃ z : Int, (k + 2) % 4 = z := ⟨_, rfl⟩
                      obtain ⟨k3, e3⟩ : ∃ z : Int, (k + 3) % 4 = z := ⟨_, rfl⟩
                      have t1 : (k + 1).tmod 4 = k1 := by rw [Int.tmod_eq_emod_of_nonneg (by omega)]; exact e1
                      have t2 : (k + 2).tmod 4 = k2 := by rw [Int.tmod_eq_emod_of_nonneg (by omega)]; exact e2
                      have t3 : (k + 3).tmod 4 = k3 := by rw [Int.tmod_eq_emod_of_nonneg (by omega)]; exact e3
                      have cM := fun wq (R : Row wq b4 (u32s UD) 120) => bMix b4 k (4 + k1) (8 + k2) (12 + k3) k0 (by omega) (by omega) (by omega) (by omega) (by omega) (by omega) (by omega) x y x0 y0 UD HD.out.2.2.2 wq R
                      rw [dia_is k0 e1 e2 e3 er1 er2 ex ey] at cM
                      have HN := Lib.hid (HD.out.step hk)
                      have w0 := wrap_small (x := 2 * k) (by omega) (by omega)
                      have w1 := wrap_small (x := 8 + 2 * k) (by omega) (by omega)
                      have w2 := wrap_small (x := 9 + 2 * k) (by omega) (by omega)
                      have w3 := wrap_small (x := k + 1) (by omega) (by omega)
                      have w4 := wrap_small (x := k + 2) (by omega) (by omega)
                      have w5 := wrap_small (x := k + 3) (by omega) (by omega)
                      have w6 := wrap_small (x := 4 + k1) (by omega) (by omega)
                      have w7 := wrap_small (x := 8 + k2) (by omega) (by omega)
                      have w8 := wrap_small (x := 12 + k3) (by omega) (by omega)
                      have b10a : (0 : Int) ≤ 8 + 2 * k := by omega
                      have b10b : 8 + 2 * k < 16 := by omega
                      have b11a : (0 : Int) ≤ 9 + 2 * k := by omega
                      have b11b : 9 + 2 * k < 16 := by omega
                      have h3b : b3 < b4 := by have := PD.out.ord; omega
                      have h0b : 0 < b4 := by omega
                      replace cM := Lib.hid cM
                      clear er1 er2 ex ey 
                      go_wp2_with fail
                      refine wp_region_noPanic ?_
                      refine wp_region_held_drew (S := fun w' => w'.cell? ⟨0, i.toNat * 16 + (8 + 2 * k).toNat, none⟩ = some (.int .i64 r1) ∧ w'.cell? ⟨0, i.toNat * 16 + (9 + 2 * k).toNat, none⟩ = some (.int .i64 r2) ∧ w'.cell? ⟨b3, r1.toNat, none⟩ = some (.int .u32 x) ∧ w'.cell? ⟨b3, r2.toNat, none⟩ = some (.int .u32 y)) (by kernel_rfl) ?_ (fun hHeld => ?_)
                      · exact ⟨g1, g2, g3, g4⟩
                      refine tk 0 hHeld ?_; refine tk 1 hHeld ?_; refine tk 2 hHeld ?_; refine tk 3 hHeld ?_; refine tk 4 hHeld ?_; refine tk 5 hHeld ?_; refine tk 6 hHeld ?_; refine tk 7 hHeld ?_; refine tk 8 hHeld ?_; refine tk 9 hHeld ?_; refine tk 10 hHeld ?_; refine tk 11 hHeld ?_; refine tk 12 hHeld ?_; refine tk 13 hHeld ?_; refine tk 14 hHeld ?_; refine tk 15 hHeld ?_; refine tk 16 hHeld ?_; refine tk 17 hHeld ?_; refine tk 18 hHeld ?_; refine tk 19 hHeld ?_; refine tk 20 hHeld ?_; refine tk 21 hHeld ?_; refine tk 22 hHeld ?_; refine tk 23 hHeld ?_; refine tk 24 hHeld ?_; refine tk 25 hHeld ?_; refine tk 26 hHeld ?_; refine tk 27 hHeld ?_; refine tk 28 hHeld ?_; refine tk 29 hHeld ?_; refine tk 30 hHeld ?_
                      refine stepH 31 (by kernel_rfl) rfl (by rfl) (fun K hK => ?_)
                      go_simp
                      refine (cM.out _ (PD.out.drew).rv).mono ?_
                      rintro e w3 ⟨rfl, hR, hb⟩
                      have PN := Lib.hid (PD.out.drew.mixV hR hb)
                      refine hK.out _ _ ?_ (fun hHeld => ?_)
                      · exact cells_next hb hHeld h0b h0b h3b h3b
                      clear hK K
                      try simp only [Act.put, List.setIfInBounds_toArray, List.set_cons_zero, List.set_cons_succ]
                      refine wpAnyH_done (by kernel_rfl) (NoPanic.normal ?_) _
                      go_wp2
                      go_roundw
                      case rel => exact ⟨_, _, rfl, HN, PN⟩
                      case measure => simp [intOf]; omega
                    · obtain rfl : k = 4 := by omega
                      have HN := Lib.hid (HI.out.step hi HK.out HD.out)
                      go_wp2_with fail
                      go_roundw
                      case rel => exact ⟨_, _, rfl, HN, PD⟩
                      case measure => simp [intOf]; omega
            · obtain rfl : i = 10 := by omega
              have HV := Lib.hid HI.out.2.2.2
              have hVr : Hid (V = Obol.rnds M 10 VS) := Lib.hid HI.out.2.2.1
              clear HI i0 i1 hi
              go_wp2_with fail
              go_loopw [130] (fun q1 wr => ∃ (i : Int) (L : List Nat), q1 = .int .i64 i ∧ Hid (EndI h V L i) ∧ Hid (PR w wr b0 b1 b2 b3 b4 L B M V)) (fun q1 _ => (8 - intOf q1).toNat)
              case atStart => exact ⟨0, h, rfl, Lib.hid ⟨by omega, by omega, rfl, Hh.out, fun j _ => rfl⟩, P⟩
              case round =>
                clear P
                obtain ⟨i, L, rfl, HI, P⟩ := hrel
                have i0 := HI.out.1
                have i1 := HI.out.2.1
                have HL := Lib.hid HI.out.2.2.2.1
                by_cases hi : i < 8
                · obtain ⟨vh, eh, lh, uh⟩ := word_at HL.out (i := i) i0 (by omega)
                  obtain ⟨va, ea, la, ua⟩ := word_at HV.out (i := i) i0 (by omega)
                  obtain ⟨vb, eb, lb, ub⟩ := word_at HV.out (i := 8 + i) (by omega) (by omega)
                  have ch : wr.cell? ⟨b0, i.toNat, none⟩ = some (.int .u32 vh) := P.out.rh.cell i.toNat ((u32s_at HL.out i0 hi).trans (by rw [eh]))
                  have ca : wr.cell? ⟨b4, i.toNat, none⟩ = some (.int .u32 va) := P.out.rv.cell i.toNat ((u32s_at HV.out i0 (by omega)).trans (by rw [ea]))
                  have cb : wr.cell? ⟨b4, (8 + i).toNat, none⟩ = some (.int .u32 vb) := P.out.rv.cell (8 + i).toNat ((u32s_at HV.out (by omega) (by omega)).trans (by rw [eb]))
                  have f := P.out.rh.free i.toNat
                  have h1 := xor_eq ea eb (HV.out.lt _) (HV.out.lt _)
                  have h1l := Obol.xor_lt (HV.out.lt i.toNat) (HV.out.lt (8 + i).toNat)
                  obtain ⟨z1, hz1⟩ : ∃ z : Int, bits .xor .u32 va vb = z := ⟨_, rfl⟩
                  rw [hz1] at h1
                  have h2 := xor_eq eh h1.symm (HL.out.lt _) h1l
                  have h2l := Obol.xor_lt (HL.out.lt i.toNat) h1l
                  obtain ⟨z2, hz2⟩ : ∃ z : Int, bits .xor .u32 vh z1 = z := ⟨_, rfl⟩
                  rw [hz2] at h2
                  have HN := Lib.hid (HI.out.step hi rfl (by rw [show (8 + i.toNat) = (8 + i).toNat by omega]; exact h2l))
                  have PN := Lib.hid ((P.out.setH i.toNat _ h2).drew)
                  rw [show (8 + i.toNat) = (8 + i).toNat by omega] at HN
                  clear h1 h1l h2 h2l eh ea eb HI HL P
                  go_wp2_with fail
                  go_region
                  go_wp2_with fail
                  go_roundw
                  case rel => exact ⟨_, _, rfl, HN, PN⟩
                  case measure => simp [intOf]; omega
                · obtain rfl : i = 8 := by omega
                  have hE : Hid (L = Obol.pressL h M count.toNat last) := Lib.hid (by
                    rw [HI.out.2.2.1, hVr.out, HS.out.1]
                    rfl)
                  have hn : (u32s L).size = 8 := by unfold u32s; simp [HL.out.len]
                  have hu : Tryz.prog.underlying 96 = some (.array 8 88) := by kernel_rfl
                  have hinf : (Tryz.prog.info? 96).map (·.size) = some 8 := by kernel_rfl
                  have h1 : (u32s L).toList.toArray.all (·.oneCell') = true := all_oneCell_toArray (by unfold u32s; simp; intro v _; rfl)
                  have hz8 : (u32s (zs 8)).size = 8 := by unfold u32s; simp
                  have hth : wr.there b2 0 (u32s L).toList.toArray.size := by rw [Array.toArray_toList, hn, ← hz8]; exact P.out.rr.there
                  clear HI hi i0 i1
                  go_wp2_with (first | (refine wpList_load_mid rfl _ _ rfl b0 0 rfl (u32s L).toList _ P.out.rh.range hu rfl (by rw [hinf]; simp [hn]) ?_) | (refine wpList_store_mid rfl _ _ _ rfl b2 0 (u32s L).toList.toArray rfl rfl hth (by rw [hinf]; simp [hn]) h1 ?_))
                  have RZ : Row (wr.setCells b2 0 (u32s L).toList.toArray.toList) b2 (u32s L) 96 := by rw [Array.toArray_toList]; exact P.out.rr.store (u32s L) (by rw [hn, hz8])
                  refine bodyPost_ret (v := .agg (u32s L)) (results_row rfl _ rfl RZ hu rfl (by rw [hinf, hn])) rfl ⟨by rw [HM0.out, ← hE.out], ?_⟩
                  exact bSetMany (by have := P.out.ord; omega) _ _ _ P.out.bw

end Go.Proofs.YtkfimfjjmdjbdaaGreatDoor
