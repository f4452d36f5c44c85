import Derived.Test.YtiffendfojhapaaDoorWrow
import Derived.Deep.MidRow
/- Whole blocks that are arrays: loaded and stored in one piece. -/
namespace Go.Proofs.YtiffendfojhapaaDoor
open Go.RowKit

theorem Row.range {w : World} {b : Nat} {cs : Array Value} {t : TypeId} (h : Row w b cs t) : w.rangeAt b 0 cs.toList := fun j v hj => by
  rw [Nat.zero_add]
  exact h.cell j (by simpa using hj)
theorem Row.there {w : World} {b : Nat} {cs : Array Value} {t : TypeId} (h : Row w b cs t) : w.there b 0 cs.size := fun j hj => by
  rw [Nat.zero_add, h.cell j (v := cs[j]) (by simp [hj])]
  exact ⟨rfl, h.free j⟩
theorem Row.setMany {b : Nat} {t : TypeId} : ∀ (vs : List Value) (o : Nat) (w : World) (cs : Array Value), Row w b cs t → o + vs.length ≤ cs.size →
    Row (w.setCells b o vs) b (cs.toList.take o ++ vs ++ cs.toList.drop (o + vs.length)).toArray t
  | [], o, w, cs, h, _ => by simpa [World.setCells] using h
  | v :: r, o, w, cs, h, hs => by
    have hs' : o + 1 + r.length ≤ (cs.setIfInBounds o v).size := by simp at hs ⊢; omega
    have ih := Row.setMany r (o + 1) _ _ (h.set o v) hs'
    have ho : o < cs.size := by simp at hs; omega
    rw [World.setCells]
    have e : (cs.setIfInBounds o v).toList.take (o + 1) ++ r ++ (cs.setIfInBounds o v).toList.drop (o + 1 + r.length) = cs.toList.take o ++ v :: r ++ cs.toList.drop (o + (v :: r).length) := by
      have h1 : (cs.toList.set o v).take (o + 1) = cs.toList.take o ++ [v] := by
        rw [List.take_add_one, List.take_set_of_le (Nat.le_refl o), List.getElem?_set_self (by simpa using ho)]
        rfl
      have h2 : (cs.toList.set o v).drop (o + 1 + r.length) = cs.toList.drop (o + (v :: r).length) := by
        rw [List.drop_set_of_lt (by omega), List.length_cons, show o + 1 + r.length = o + (r.length + 1) by omega]
      rw [Array.toList_setIfInBounds, h1, h2]
      simp
    rw [← e]
    exact ih
theorem Row.store {w : World} {b : Nat} {cs : Array Value} {t : TypeId} (h : Row w b cs t) (cs' : Array Value) (hs : cs'.size = cs.size) : Row (w.setCells b 0 cs'.toList) b cs' t := by
  have := Row.setMany cs'.toList 0 w cs h (by simp [hs])
  have e : cs.toList.take 0 ++ cs'.toList ++ cs.toList.drop (0 + cs'.toList.length) = cs'.toList := by
    rw [List.take_zero, List.nil_append, List.drop_eq_nil_of_le (by simp [hs]), List.append_nil]
  rw [e] at this
  exact this

theorem bSetMany {B : Nat} {a : World} {b : Nat} (hb : B ≤ b) : ∀ (vs : List Value) (o : Nat) (w : World), Below B a w → Below B a (w.setCells b o vs)
  | [], _, _, h => h
  | v :: r, o, w, h => bSetMany hb r (o + 1) _ (bSet h hb)

/-- A result that is an array in a block of its own. -/
theorem results_row {P : Program} {fn : Func} {p : Tmp} {t : TypeId} (h : fn.results = #[.cell p t]) (tmps : Array Value) {w : World} {b : Nat} {cs : Array Value} {d : TypeDesc} (ht : tmps.getD p undef = .pointer (some ⟨b, 0, none⟩))
    (hR : Row w b cs t) (hu : P.underlying t = some d) (hd : d.isRow = true) (hi : (P.info? t).map (·.size) = some cs.size) : (results fn tmps).run P w = .ok (.agg cs) w := by
  have hl := run_loadVar_mid (P := P) w b 0 t cs.toList d hR.range hu hd (by rw [hi]; simp)
  rw [Array.toArray_toList] at hl
  have ht' : tmps[p]?.getD undef = .pointer (some ⟨b, 0, none⟩) := by simpa using ht
  simp [results, h, ht', asAddr, hl]

end Go.Proofs.YtiffendfojhapaaDoor
