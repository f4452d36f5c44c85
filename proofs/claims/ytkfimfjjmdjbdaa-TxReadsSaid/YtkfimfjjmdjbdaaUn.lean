import Derived.Test.YtkfimfjjmdjbdaaUm
import Derived.Test.YtkfimfjjmdjbdaaUc
import Derived.Deep.CutBlock
import Derived.Deep.DeepCutAuto
import Derived.Laws.ResultCell
set_option linter.unusedVariables false
set_option linter.unusedSimpArgs false
set_option linter.unusedSectionVars false
/- Walks: package tx: helpers for Read. -/
namespace Go.Proofs.Ytkfimfjjmdjbdaa
open Go.RowKit
set_option linter.unusedVariables false

theorem RdAt.other {base br : Nat} {s : Obol.Rs} {w : World} {D o : Nat} {v : Value} (h : RdAt base br s w) (hn : br ≠ D) (hD : base ≤ D) : RdAt base br s (w.setCell ⟨D, o, none⟩ v) := by
  obtain ⟨a, c, h1, h2, h3⟩ := h
  exact ⟨a, c, h1.other hn, h2.below (bSet (Below.refl _ _) hD), h3⟩
theorem wpList_on {P : Program} {ops : Array Oper} {Q : Exit → Act → World → Prop} {a : Act} {w : World} {rest : List Oper} {o : Oper} (hw : Region.wanted o (yielded ops a.tmps) = true)
    (h : ∀ K : Act → World → Prop, (∀ a w, wpList P ops Q rest a w → K a w) → o.wp P a w K Q) : wpList P ops Q (o :: rest) a w := by
  unfold wpList
  rw [if_pos hw]
  exact .inl (h _ (fun _ _ h => h))
theorem wpList_load_on {P : Program} {ops : Array Oper} {rest : List Oper} {o : Oper} {a : Act} {w : World} {Q : Exit → Act → World → Prop} (hw : Region.wanted o (yielded ops a.tmps) = true) (ty : TypeId) (x : Operand) (ho : o.op = .load ty x)
    (g : Nat) (hx : a.eval x = .pointer (some ⟨g, 0, none⟩)) (t : TypeId) (cs : Array Value) (fr : Nat × Nat) (d : TypeDesc) (hg : w.heap[g]? = some (.cells cs t fr))
    (hu : P.underlying ty = some d) (hd : (match d with | .struct _ | .array _ _ => true | _ => false) = true) (hi : (P.info? ty).map (·.size) = some cs.size)
    (h : wpList P ops Q rest (a.put o.dst (.agg cs)) w) : wpList P ops Q (o :: rest) a w :=
  wpList_on hw fun _ hK => wp_load_row ty x ho g hx t cs fr d hg hu hd hi (hK _ _ h)
theorem sizPR : (Try.prog.info? 33).map (·.size) = some 9 := by kernel_rfl
theorem one9 (a b c : Bool) (p q r s t v : Int) : (#[.bool a, .int .u64 p, .int .u64 q, .bool b, .int .u64 r, .int .u64 s, .bool c, .int .u64 t, .int .u64 v] : Array Value).all (·.oneCell') = true := by simp [Value.oneCell']
theorem oneZ : (#[.int .u64 0, .int .u64 0, .int .u64 0, .int .u64 0, .int .u64 0, .int .u64 0, .int .u64 0, .int .u64 0, .int .u64 0, .int .u64 0, .int .u64 0, .int .u64 0, .int .u64 0, .int .u64 0, .slice none 0 0, .int .u64 0, .int .u64 0, .slice none 0 0, .int .u64 0, .int .u64 0, .bool false, .int .u64 0, .int .u64 0, .bool false, .int .u64 0, .int .u64 0, .bool false, .int .u64 0, .int .u64 0, .int .u64 0, .int .u64 0, .int .u64 0] : Array Value).all (·.oneCell') = true := by simp [Value.oneCell']
theorem eqnil (g o n c : Nat) (W : World) : (binOp .eql 26 (.slice (some ⟨g, o, none⟩) n c) (.slice none 0 0)).run Try.prog W = .ok (.bool false) W := by
  first | kernel_rfl | rfl
set_option maxRecDepth 8000 in
/-- A copy of bytes. -/
theorem bClone (g o n c : Nat) (M : List Nat) (hn : M.length = n) (h0 : n ≤ 1000) (w : World) (hBL : BL w g o M) (hp : 0 < n) :
    Calls Try.prog 40 #[.slice (some ⟨g, o, none⟩) n c] w fun e w' => ∃ b c', e = .returned (.slice (some ⟨b, 0, none⟩) n c') ∧ OwnB w' w.heap.size (.slice (some ⟨b, 0, none⟩) n c') M ∧ Below w.heap.size w w' := by
  obtain ⟨b, c2, W', h1, h2, h3⟩ := append_copy w (some ⟨g, o, none⟩) n c M hn (by omega) (fun h => by cases h) (fun _ => ⟨g, o, rfl, hBL⟩)
  have O := Lib.hid h2
  have B := Lib.hid h3
  have hq := eqnil g o n c
  clear h2 h3 hBL
  go_enter Try.func40, Try.ntmps40
  go_wp2_with (at_builtin; refine wpList_appended rfl _ _ _ _ rfl _ _ _ rfl rfl h1 ?_)
  go_ret
  exact ⟨b, c2, rfl, O.out, B.out⟩

/-- A copy that is kept: its block's cells. -/
structure OwF (g e : Nat) (z : Array Value) (M : List Nat) (b5 br : Nat) : Prop where
  len : M.length = 32
  le : 32 ≤ e
  cap : e ≤ maxLen
  size : z.size = e
  take : z.toList.take 32 = U8 M
  n5 : b5 < g
  nr : br < g

theorem HR.otherMany {w : World} {rs : List (Nat × Array Value × TypeId)} {D : Nat} (hne : ∀ r ∈ rs, r.1 ≠ D) (hD : w.heap.size ≤ D) : ∀ (vs : List Value) (o : Nat) (w1 : World), HR w w1 rs → HR w (w1.setCells D o vs) rs
  | [], _, _, h => h
  | v :: r, o, w1, h => HR.otherMany hne hD r (o + 1) _ (h.other hne hD)
theorem RdAt.otherMany {base br : Nat} {s : Obol.Rs} {D : Nat} (hn : br ≠ D) (hD : base ≤ D) : ∀ (vs : List Value) (o : Nat) (w : World), RdAt base br s w → RdAt base br s (w.setCells D o vs)
  | [], _, _, h => h
  | v :: r, o, w, h => RdAt.otherMany hn hD r (o + 1) _ (h.other hn hD)
theorem Row.thereMid {w : World} {b : Nat} {cs : Array Value} {t : TypeId} (h : Row w b cs t) (o n : Nat) (ho : o + n ≤ cs.size) : w.there b o n := fun j hj => by
  rw [h.cell (o + j) (v := cs[o + j]'(by omega)) (by simp)]
  exact ⟨rfl, h.free (o + j)⟩
theorem HR.putMany {w w1 : World} {rs : List (Nat × Array Value × TypeId)} {D : Nat} {cs cs' : Array Value} {t : TypeId} (h : HR w w1 ((D, cs, t) :: rs)) (hne : ∀ r ∈ rs, r.1 ≠ D) (hD : w.heap.size ≤ D) (vs : List Value) (o : Nat) (ho : o + vs.length ≤ cs.size)
    (e : (cs.toList.take o ++ vs ++ cs.toList.drop (o + vs.length)).toArray = cs') : HR w (w1.setCells D o vs) ((D, cs', t) :: rs) := by
  subst e
  exact HR.add (HR.otherMany hne hD vs o _ h.tail) (Row.setMany vs o _ _ (h.1 _ (List.mem_cons_self ..)) ho)

end Go.Proofs.Ytkfimfjjmdjbdaa
/- Walks: package tx: what the reader's values are bounded by; a tuple whose first part is a block. -/
namespace Obol
theorem mem_lt {l : List Nat} (h : ∀ i, l.getD i 0 < 256) : ∀ x ∈ l, x < 256 := fun x hx => by
  obtain ⟨i, hi, rfl⟩ := List.mem_iff_getElem.1 hx
  have := h i
  rw [List.getD_eq_getElem?_getD, List.getElem?_eq_getElem hi] at this
  exact this
theorem rdN_lt {s : Rs} (h : ∀ i, s.2.getD i 0 < 256) : rdN s < 18446744073709551616 := num8_lt (mem_lt (tkM_lt 8 h)) (tkM_len 8 s)
theorem ptP_lt {s : Rs} (h : ∀ i, s.2.getD i 0 < 256) : (ptP s).1 < 18446744073709551616 ∧ (ptP s).2 < 18446744073709551616 := by
  unfold ptP
  split
  · rename_i p hp
    have := (read_is _ (rdN_lt h)).2 p hp
    have e : R < 18446744073709551616 := by decide
    omega
  · simp
theorem crd_lt {M : List Nat} (h : ∀ i, M.getD i 0 < 256) {p : Bool × Nat × Nat} (hp : crd M = some p) : p.2.1 < 18446744073709551616 ∧ p.2.2 < 18446744073709551616 := by
  unfold crd at hp
  split at hp
  · simp only [Option.some.injEq] at hp; subst hp; simp
  · split at hp
    · rename_i hc
      have h1 : M.length = 17 := hc.1
      split at hp
      · simp only [Option.some.injEq] at hp; subst hp
        exact ⟨num8_lt (fun x hx => mem_lt h x (List.mem_of_mem_drop (List.mem_of_mem_take hx))) (by simp [h1]), num8_lt (fun x hx => mem_lt h x (List.mem_of_mem_drop hx)) (by simp [h1])⟩
      · cases hp
    · cases hp
theorem pfP_lt {s : Rs} (h : ∀ i, s.2.getD i 0 < 256) : (pfP s).2.1 < 18446744073709551616 ∧ (pfP s).2.2 < 18446744073709551616 := by
  unfold pfP
  split
  · rename_i p hp
    exact crd_lt (tkM_lt _ h) hp
  · simp
theorem pfV_lt {s : Rs} (h : ∀ i, s.2.getD i 0 < 256) (j k : Nat) : (pfV s j k).2.1 < 18446744073709551616 ∧ (pfV s j k).2.2 < 18446744073709551616 := by
  unfold pfV
  split
  · exact pfP_lt (pfN_lt h k)
  · simp
end Obol
namespace Go.Proofs.Ytkfimfjjmdjbdaa
open Go.RowKit
set_option linter.unusedVariables false
theorem results_two_row {P : Program} {fn : Func} {p q : Tmp} {t : TypeId} (h : fn.results = #[.cell p t, .tmp q]) (tmps : Array Value) {w : World} {b : Nat} {cs : Array Value} {d : TypeDesc} (ht : tmps.getD p undef = .pointer (some ⟨b, 0, none⟩))
    (hR : Row w b cs t) (hu : P.underlying t = some d) (hd : d.isRow = true) (hi : (P.info? t).map (·.size) = some cs.size) : (results fn tmps).run P w = .ok (.tuple #[.agg cs, tmps.getD q undef]) w := by
  have hl := run_loadVar_mid (P := P) w b 0 t cs.toList d hR.range hu hd (by rw [hi]; simp)
  rw [Array.toArray_toList] at hl
  rw [results_cell_tmp h, ht]
  simp [asAddr, hl, Result.andThen]
end Go.Proofs.Ytkfimfjjmdjbdaa
