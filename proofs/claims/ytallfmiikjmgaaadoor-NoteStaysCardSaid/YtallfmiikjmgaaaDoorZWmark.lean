import Derived.Test.YtallfmiikjmgaaaDoorZWref5b
import Derived.Test.YtallfmiikjmgaaaDoorZWsum0
import Derived.Lib.ConvBytes
set_option linter.unusedVariables false
set_option linter.unusedSimpArgs false
/- A slice of the call's own whose row is marked behind its last cell (what a string's conversion lays); appended to. -/
namespace Go.Proofs.YtallfmiikjmgaaaDoor
open Go.RowKit

def Unfz (fz : Nat × Nat) (n : Nat) : Prop := ∀ j, j < n → ¬ (fz.1 ≤ j ∧ j < fz.2)
def OwnM (w : World) (base : Nat) (v : Value) (L : List Nat) : Prop :=
  ∃ g cap cur fz, v = .slice (some ⟨g, 0, none⟩) L.length cap ∧ base ≤ g ∧ w.heap[g]? = some (.cells cur 5 fz) ∧ Unfz fz cur.size ∧ L.length ≤ cap ∧ cap ≤ maxLen ∧ cur.size = cap ∧ cur.toList.take L.length = U8 L
theorem OwnM.keep {w w' : World} {base B : Nat} {v : Value} {L : List Nat} (h : OwnM w base v L) (hb : Below B w w') (hB : w.heap.size ≤ B) : OwnM w' base v L := by
  obtain ⟨g, cap, cur, fz, h1, h2, h3, h4⟩ := h
  exact ⟨g, cap, cur, fz, h1, h2, (hb.block g (Nat.lt_of_lt_of_le (Array.getElem?_eq_some_iff.1 h3).1 hB)).trans h3, h4⟩
theorem OwnM.shape {w : World} {base : Nat} {v : Value} {L : List Nat} (h : OwnM w base v L) : ∃ g cap, v = .slice (some ⟨g, 0, none⟩) L.length cap ∧ base ≤ g ∧ g < w.heap.size ∧ L.length ≤ cap ∧ cap ≤ maxLen ∧ BL w g 0 L := by
  obtain ⟨g, cap, cur, fz, h1, h2, h3, h4, h5, h6, h7, h8⟩ := h
  refine ⟨g, cap, h1, h2, (Array.getElem?_eq_some_iff.1 h3).1, h5, h6, fun i hi => ?_⟩
  rw [Nat.zero_add, cell_of_row w g i cur _ fz h3]
  have h9 := congrArg (·[i]?) h8
  simp only [List.getElem?_take, if_pos hi, List.getElem?_map, List.getElem?_eq_getElem hi, Array.getElem?_toList] at h9
  rw [h9, List.getD_eq_getElem?_getD, List.getElem?_eq_getElem hi]
  rfl
theorem OwnM.at {w : World} {base g n cap : Nat} {L : List Nat} (h : OwnM w base (.slice (some ⟨g, 0, none⟩) n cap) L) : L.length = n ∧ base ≤ g ∧ g < w.heap.size ∧ n ≤ cap ∧ BL w g 0 L := by
  obtain ⟨g', c', hv, h1, h2, h3, _, h5⟩ := h.shape
  simp only [Value.slice.injEq, Option.some.injEq, Addr.mk.injEq, and_true] at hv
  obtain ⟨rfl, rfl, rfl⟩ := hv
  exact ⟨rfl, h1, h2, h3, h5⟩
theorem run_storeCells_atU (P : Program) (g o : Nat) (t : TypeId) (fz : Nat × Nat) : ∀ (vs : List Value) (i : Nat) (cur : Array Value) (w : World), w.heap[g]? = some (.cells cur t fz) → Unfz fz cur.size → o + i + vs.length ≤ cur.size → (∀ v ∈ vs, v.oneCell' = true) →
    (storeCells ⟨g, o, none⟩ vs i).run P w = .ok () (w.setRow g (cur.toList.take (o + i) ++ vs ++ cur.toList.drop (o + i + vs.length)).toArray)
  | [], i, cur, w, hg, _, _, _ => by
    simp only [storeCells, List.append_nil, List.length_nil, Nat.add_zero, List.take_append_drop, Array.toArray_toList]
    rw [setRow_self w g cur t fz hg]
    rfl
  | v :: rest, i, cur, w, hg, hfz, hl, h1 => by
    have hi : o + i < cur.size := by simp at hl; omega
    have hadd : (⟨g, o, none⟩ : Addr).add i = ⟨g, o + i, none⟩ := by unfold Addr.add; split <;> simp_all
    have hcell : w.cell? ⟨g, o + i, none⟩ = some cur[o + i] := by simp [World.cell?, hg, hi]
    have hfro : w.frozen? ⟨g, o + i, none⟩ = false := by
      have h := hfz (o + i) hi
      obtain ⟨lo, hi'⟩ := fz
      simp only [World.frozen?, hg, Bool.and_eq_false_iff, decide_eq_false_iff_not]
      simp only at h
      omega
    have hst : (store ((⟨g, o, none⟩ : Addr).add i) v).run P w = .ok () (w.setRow g (cur.setIfInBounds (o + i) v)) := by
      rw [hadd, run_store P w _ v _ (h1 v (by simp)), hcell]
      simp [hfro, setCell_eq_setRow w g (o + i) cur t fz v hg]
    have ih := run_storeCells_atU P g o t fz rest (i + 1) (cur.setIfInBounds (o + i) v) (w.setRow g (cur.setIfInBounds (o + i) v)) (setRow_heap w g cur _ t _ hg) (by simpa using hfz) (by simp at hl ⊢; omega) (fun x hx => h1 x (by simp [hx]))
    simp only [storeCells, Sem.run_bind, hst, Result.andThen_ok, ih, setRow_setRow]
    congr 3
    have e := list_seg_step cur.toList (o + i) v rest (by simp at hl ⊢; omega)
    simpa [Array.toList_setIfInBounds, Nat.add_assoc] using e

theorem append_mark (w : World) (base : Nat) (v : Value) (L M : List Nat) (hown : OwnM w base v L) (a : Addr) (c : Nat) (hnews : ∀ j u, (U8 M)[j]? = some u → w.cell? (a.add j) = some u)
    (hlen : L.length + M.length ≤ 1000000) (hbase : base ≤ w.heap.size) :
    ∃ v' w', (∀ ty, (Builtin.append_ #[42, 42] ty #[v, .slice (some a) M.length c]).run Tryd.prog w = .ok v' w') ∧ OwnM w' base v' (L ++ M) ∧ Below base w w' := by
  obtain ⟨ti, hti, htz, hts, htb⟩ := info_parts info8
  obtain ⟨g, cap, cur, fz, rfl, hbg, hg, hfz, hnc, hcm, hcs, htake⟩ := hown
  have h1 : ∀ u ∈ U8 M, u.oneCell' = true := fun u hu => by obtain ⟨x, _, rfl⟩ := List.mem_map.1 hu; rfl
  have hlM : (U8 M).length = M.length := by simp
  have hlL : (U8 L).length = L.length := by simp
  have hLM : (L ++ M).length = L.length + M.length := List.length_append
  have hU : U8 (L ++ M) = U8 L ++ U8 M := by simp [U8]
  by_cases hroom : L.length + M.length ≤ cap
  · have hf := run_firstCells_some (P := Tryd.prog) w 1 M.length a M.length c (U8 M) (by simp) hnews
    have hst := run_storeCells_atU Tryd.prog g L.length 5 fz (U8 M) 0 cur w hg hfz (by rw [hlM]; omega) h1
    simp only [Nat.add_zero] at hst
    have hr : ∀ ty, (Builtin.append_ #[42, 42] ty #[.slice (some ⟨g, 0, none⟩) L.length cap, .slice (some a) M.length c]).run Tryd.prog w =
      .ok (.slice (some ⟨g, 0, none⟩) (L.length + M.length) cap) (w.setRow g (cur.toList.take L.length ++ U8 M ++ cur.toList.drop (L.length + (U8 M).length)).toArray) := by
      intro ty
      simp [Builtin.append_, run_underlying Tryd.underlying42, Go.sizeOf, typeInfo, hti, hts, Builtin.lenOf, hroom, hf, Addr.add_lit, hst]
    refine ⟨_, _, hr, ⟨g, cap, _, fz, by rw [hLM], hbg, setRow_heap w g cur _ _ fz hg, ?_, by omega, hcm, ?_, ?_⟩, ?_⟩
    · intro j hj
      refine hfz j ?_
      simp only [List.size_toArray, List.length_append, List.length_take, List.length_drop, Array.length_toList, hlM] at hj
      omega
    · simp only [List.size_toArray, List.length_append, List.length_take, List.length_drop, Array.length_toList, hlM]
      omega
    · rw [htake, hU, hLM, ← hlL, ← hlM, ← List.length_append]
      exact List.take_left
    · exact ⟨rfl, rfl, rfl, by simp, fun k hk => setRow_other w g k _ (by omega)⟩
  · have holds : ∀ j u, (U8 L)[j]? = some u → w.cell? ((⟨g, 0, none⟩ : Addr).add j) = some u := fun j u hu => by
      have hj : j < L.length := by have := (List.getElem?_eq_some_iff.1 hu).1; simpa using this
      rw [addP, Nat.zero_add, cell_of_row w g j cur _ fz hg]
      rw [← htake, List.getElem?_take, if_pos hj] at hu
      simpa using hu
    have hr := fun ty => run_append_grow (P := Tryd.prog) w 42 ty 5 ti (.int .u8 0) Tryd.underlying42 hti htz ⟨g, 0, none⟩ L.length cap (U8 L) (by rw [hts]; simp) holds a M.length c (U8 M) (by rw [hts]; simp) hnews (by omega) (by omega) (growslice_fits (by omega) (by rw [htb]; omega))
    have hge := grownCap_ge w (L.length + M.length) cap 5
    have hcm2 : grownCap w (L.length + M.length) cap 5 ≤ maxLen := grownCap_le_maxLen w _ cap _ (by unfold maxLen; omega)
    refine ⟨_, _, hr, ⟨w.heap.size, _, _, (0, 0), by rw [hLM], hbase, heap_alloc_new w.drew _, fun j _ => by omega, by omega, hcm2, ?_, ?_⟩, ⟨rfl, rfl, rfl, by simp, fun k hk => heap_alloc_old w.drew _ (Nat.lt_of_lt_of_le hk hbase : k < w.drew.heap.size)⟩⟩
    · have hz1 : (Value.int IntKind.u8 0).cells.size = 1 := rfl
      simp only [Array.size_append, List.size_toArray, size_zeroCells, hz1, hlL, hlM]
      omega
    · simp only [Array.toList_append, List.append_assoc]
      rw [← List.append_assoc, hU, hLM, ← hlL, ← hlM, ← List.length_append]
      exact List.take_left

/-- A string's bytes in a row of their own. -/
theorem conv_str (w : World) (s : ByteArray) (hs : s.size ≤ 1000000) :
    ∃ v w', (convert 9 42 (.string s)).run Tryd.prog w = .ok v w' ∧ OwnM w' w.heap.size v (strL s) ∧ Below w.heap.size w w' := by
  have hr := Lib.run_convert_string_bytes (P := Tryd.prog) w 9 42 5 s Tryd.underlying9 Tryd.underlying42 Tryd.underlying5
  have hge := grownCap_ge w s.size 0 5
  have hcm : grownCap w s.size 0 5 ≤ maxLen := grownCap_le_maxLen w _ 0 _ (by unfold maxLen; omega)
  have hsz : (Lib.bytesCells w 5 s).size = grownCap w s.size 0 5 := by
    unfold Lib.bytesCells
    simp only [Array.size_append, Array.size_map, Array.size_replicate]
    have : s.data.size = s.size := rfl
    omega
  refine ⟨_, _, hr, ⟨w.heap.size, _, _, _, by rw [strL_len], Nat.le_refl _, Lib.bytesWorld_at_new w 5 s, ?_, by rw [strL_len]; exact hge, hcm, hsz, ?_⟩, ?_⟩
  · intro j hj
    simp only
    omega
  · unfold Lib.bytesCells strL U8
    have e : (List.map (fun b => b.toNat) s.data.toList).length = (s.data.map fun b => Value.int .u8 (b.toNat : Int)).toList.length := by simp
    rw [e, Array.toList_append, List.take_left]
    simp
  · unfold Lib.bytesWorld
    exact bFreeze (bAlloc (bDrew (Below.refl _ _)) _) (Nat.le_refl _) _ _

end Go.Proofs.YtallfmiikjmgaaaDoor
