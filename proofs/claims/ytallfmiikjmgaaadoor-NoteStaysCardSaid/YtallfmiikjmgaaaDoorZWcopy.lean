import Derived.Test.YtallfmiikjmgaaaDoorZWsum0
import Derived.Test.YtallfmiikjmgaaaDoorMC
import Derived.Test.YtallfmiikjmgaaaDoorZWup5
set_option linter.unusedVariables false
set_option linter.unusedSimpArgs false
/- Slices of the call's own: appended to, by one equation each; copies. -/
namespace Go.Proofs.YtallfmiikjmgaaaDoor
open Go.RowKit

/-! an append whose run is known -/
theorem wp_appended {P : Program} {o : Oper} {a : Act} {w w' : World} {K : Act → World → Prop} {Q : Exit → Act → World → Prop} (s x : Operand) (t u : TypeId)
    (ho : o.op = .call { callee := .builtin .append, args := #[s, x], argTypes := #[t, u] }) (v y v' : Value) (hs : a.eval s = v) (hx : a.eval x = y)
    (hr : ∀ ty, (Builtin.append_ #[t, u] ty #[v, y]).run P w = .ok v' w') (h : K (a.put o.dst v') w') : o.wp P a w K Q := by
  unfold Oper.wp execOp
  simp only [ho, resolve, invoke, builtin, Sem.run_bind, Sem.run_pure, Result.andThen_ok, List.map_toArray, List.map_cons, List.map_nil, hs, hx, hr]
  exact h
theorem wpList_appended {P : Program} {ops : Array Oper} {rest : List Oper} {o : Oper} {a : Act} {w w' : World} {Q : Exit → Act → World → Prop} (hgd : o.guard = none) (s x : Operand) (t u : TypeId)
    (ho : o.op = .call { callee := .builtin .append, args := #[s, x], argTypes := #[t, u] }) (v y v' : Value) (hs : a.eval s = v) (hx : a.eval x = y)
    (hr : ∀ ty, (Builtin.append_ #[t, u] ty #[v, y]).run P w = .ok v' w') (h : wpList P ops Q rest (a.put o.dst v') w') : wpList P ops Q (o :: rest) a w :=
  wpList_plain hgd fun _ hK => wp_appended s x t u ho v y v' hs hx hr (hK _ _ h)

/-- Bytes appended to a slice of the call's own. -/
theorem append_ownB (W : World) (base : Nat) (v : Value) (L M : List Nat) (hown : OwnB W base v L) (ad : Addr) (m c : Nat) (hm : M.length = m) (hnews : ∀ j, j < M.length → W.cell? (ad.add j) = some (.int .u8 ((M.getD j 0 : Nat) : Int)))
    (hlen : L.length + M.length ≤ 140737488355328) (hbase : base ≤ W.heap.size) :
    ∃ v' W', (∀ ty, (Builtin.append_ #[42, 42] ty #[v, .slice (some ad) m c]).run Tryd.prog W = .ok v' W') ∧ OwnB W' base v' (L ++ M) ∧ Below base W W' ∧ W.grownBy W' v.ownBlock ∧ (v' = .slice none 0 0 ↔ v = .slice none 0 0 ∧ m = 0) := by
  subst hm
  obtain ⟨ti, hti, htz, hts, htb⟩ := info_parts info8
  obtain ⟨v', W', hr, ho, hg, hn⟩ := run_append_own W base 42 0 5 ti (.int .u8 0) 1 1 Tryd.underlying42 hti htz hts htb rfl (by decide) v L.length (U8 L) hown ad M.length c (U8 M) (by simp)
    (fun j u hu => by
      have hj : j < M.length := by have := (List.getElem?_eq_some_iff.1 hu).1; simpa using this
      rw [hnews j hj]
      rw [List.getElem?_map, List.getElem?_eq_getElem hj] at hu
      rw [List.getD_eq_getElem?_getD, List.getElem?_eq_getElem hj]
      simpa using hu) (fun u hu => by obtain ⟨x, _, rfl⟩ := List.mem_map.1 hu; rfl) (by unfold maxLen; omega) (by omega) hbase
  refine ⟨v', W', fun ty => hr, ?_, ?_, hg, hn⟩
  · unfold OwnB
    rw [List.length_append, show U8 (L ++ M) = U8 L ++ U8 M by simp [U8]]
    exact ho
  · exact (Below.refl _ _).grown hg (by omega) (fun q hq => (hown.lt q hq).1)
theorem append_none (W : World) (base : Nat) (v : Value) (L : List Nat) (hown : OwnB W base v L) :
    ∀ ty, (Builtin.append_ #[42, 42] ty #[v, .slice none 0 0]).run Tryd.prog W = .ok v W := by
  obtain ⟨ti, hti, htz, hts, htb⟩ := info_parts info8
  intro ty
  exact run_append_owned_none (P := Tryd.prog) W base 42 ty 5 ti 1 Tryd.underlying42 hti v L.length (U8 L) hown
/-- Bytes that came in appended to a slice of the call's own. -/
theorem append_ownS (W : World) (base : Nat) (v : Value) (L M : List Nat) (hown : OwnB W base v L) (ao : Option Addr) (m c : Nat) (hm : M.length = m) (hn : ao = none → m = 0 ∧ c = 0) (hc : 0 < m → ∃ b o, ao = some ⟨b, o, none⟩ ∧ BL W b o M)
    (hlen : L.length + M.length ≤ 140737488355328) (hbase : base ≤ W.heap.size) :
    ∃ v' W', (∀ ty, (Builtin.append_ #[42, 42] ty #[v, .slice ao m c]).run Tryd.prog W = .ok v' W') ∧ OwnB W' base v' (L ++ M) ∧ Below base W W' ∧ W.grownBy W' v.ownBlock ∧ (v' = .slice none 0 0 ↔ v = .slice none 0 0 ∧ m = 0) := by
  cases ao with
  | none =>
    obtain ⟨rfl, rfl⟩ := hn rfl
    obtain rfl : M = [] := List.length_eq_zero_iff.1 hm
    exact ⟨v, W, append_none W base v L hown, by rw [List.append_nil]; exact hown, Below.refl _ _, ⟨rfl, rfl, rfl, Nat.le_refl _, fun _ _ _ => rfl⟩, by simp⟩
  | some ad =>
    refine append_ownB W base v L M hown ad m c hm (fun j hj => ?_) hlen hbase
    obtain ⟨b, o, h1, h2⟩ := hc (by omega)
    obtain rfl := Option.some.inj h1
    rw [addB]
    exact h2 j hj
/-- 'append([]byte{}, b...)' -/
theorem append_copy (W : World) (ao : Option Addr) (len cap : Nat) (L : List Nat) (H : L.length = len) (hl : len ≤ 100000000) (hn : ao = none → len = 0 ∧ cap = 0) (hc : 0 < len → ∃ b o, ao = some ⟨b, o, none⟩ ∧ BL W b o L) :
    ∃ g cap2 W', (∀ ty, (Builtin.append_ #[42, 42] ty #[.slice (some ⟨W.heap.size, 0, none⟩) 0 0, .slice ao len cap]).run Tryd.prog (W.alloc (.cells #[] 5)) = .ok (.slice (some ⟨g, 0, none⟩) len cap2) W') ∧
      OwnB W' W.heap.size (.slice (some ⟨g, 0, none⟩) len cap2) L ∧ Below W.heap.size W W' := by
  obtain ⟨v', W', h1, h2, h3, h4, h5⟩ := append_ownS (W.alloc (.cells #[] 5)) W.heap.size _ [] L (own_empty W W.heap.size (Nat.le_refl _)) ao len cap H hn (fun h => by
      obtain ⟨b, o, e, hb⟩ := hc h
      exact ⟨b, o, e, hb.below (B := W.heap.size) (bAlloc (Below.refl _ _) _) (hb.lt (by omega))⟩) (by simp; omega) (by simp)
  rw [List.nil_append] at h2
  obtain ⟨g, cap2, rfl⟩ := own_shape h2 (fun h => by cases (h5.1 h).1)
  rw [H] at h1 h2
  exact ⟨g, cap2, W', h1, h2, ((Below.refl W.heap.size W).alloc (Nat.le_refl _) _).trans h3⟩
theorem OwnB.base {w : World} {base base' : Nat} {v : Value} {L : List Nat} (h : OwnB w base v L) (hb : base' ≤ base) : OwnB w base' v L := by
  refine ⟨h.1, ?_⟩
  rcases h.2 with h | ⟨g, cap, cur, h1, h2, h3⟩
  · exact .inl h
  · exact .inr ⟨g, cap, cur, h1, by omega, h3⟩

end Go.Proofs.YtallfmiikjmgaaaDoor
