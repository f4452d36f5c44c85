import Derived.Test.YtkfimfjjmdjbdaaUc
import Derived.Test.YtkfimfjjmdjbdaaUb
import Derived.Test.YtkfimfjjmdjbdaaUa
set_option linter.unusedVariables false
set_option linter.unusedSimpArgs false
set_option linter.unusedSectionVars false
/- Slices of the call's own: appended to, by one equation each; copies. -/
namespace Go.Proofs.Ytkfimfjjmdjbdaa
open Go.RowKit

/-! an append whose run is known -/
theorem wp_appended {P : Program} {o : Oper} {a : Act} {w w' : World} {K : Act → World → Prop} {Q : Exit → Act → World → Prop} (s x : Operand) (t u : TypeId)
    (ho : o.op = .call { callee := .builtin .append, args := #[s, x], argTypes := #[t, u] }) (v y v' : Value) (hs : a.eval s = v) (hx : a.eval x = y)
    (hr : ∀ ty, (Builtin.append_ #[t, u] ty #[v, y]).run P w = .ok v' w') (h : K (a.put o.dst v') w') : o.wp P a w K Q := by
  unfold Oper.wp execOp
  simp only [ho, resolve, invoke, builtin, Sem.run_bind, Sem.run_pure, Result.andThen_ok, List.map_toArray, List.map_cons, List.map_nil, hs, hx, hr]
  exact h
theorem wpList_appended {P : Program} {ops : Array Oper} {rest : List Oper} {o : Oper} {a : Act} {w w' : World} {Q : Exit → Act → World → Prop} (hgd : o.guard = none) (s x : Operand) (t u : TypeId)
    (ho : o.op = .call { callee := .builtin .append, args := #[s, x], argTypes := #[t, u] }) (v y v' : Value) (hs : a.eval s = v) (hx : a.eval x = y)
    (hr : ∀ ty, (Builtin.append_ #[t, u] ty #[v, y]).run P w = .ok v' w') (h : wpList P ops Q rest (a.put o.dst v') w') : wpList P ops Q (o :: rest) a w :=
  wpList_plain hgd fun _ hK => wp_appended s x t u ho v y v' hs hx hr (hK _ _ h)

/-- Bytes appended to a slice of the call's own. -/
theorem append_ownB (W : World) (base : Nat) (v : Value) (L M : List Nat) (hown : OwnB W base v L) (ad : Addr) (m c : Nat) (hm : M.length = m) (hnews : ∀ j, j < M.length → W.cell? (ad.add j) = some (.int .u8 ((M.getD j 0 : Nat) : Int)))
    (hlen : L.length + M.length ≤ 140737488355328) (hbase : base ≤ W.heap.size) :
    ∃ v' W', (∀ ty, (Builtin.append_ #[26, 26] ty #[v, .slice (some ad) m c]).run Try.prog W = .ok v' W') ∧ OwnB W' base v' (L ++ M) ∧ Below base W W' ∧ W.grownBy W' v.ownBlock ∧ (v' = .slice none 0 0 ↔ v = .slice none 0 0 ∧ m = 0) := by
  subst hm
  obtain ⟨ti, hti, htz, hts, htb⟩ := info_parts info8
  obtain ⟨v', W', hr, ho, hg, hn⟩ := run_append_own W base 26 0 5 ti (.int .u8 0) 1 1 Try.underlying26 hti htz hts htb rfl (by decide) v L.length (U8 L) hown ad M.length c (U8 M) (by simp)
    (fun j u hu => by
      have hj : j < M.length := by have := (List.getElem?_eq_some_iff.1 hu).1; simpa using this
      rw [hnews j hj]
      rw [List.getElem?_map, List.getElem?_eq_getElem hj] at hu
      rw [List.getD_eq_getElem?_getD, List.getElem?_eq_getElem hj]
      simpa using hu) (fun u hu => by obtain ⟨x, _, rfl⟩ := List.mem_map.1 hu; rfl) (by unfold maxLen; omega) (by omega) hbase
  refine ⟨v', W', fun ty => hr, ?_, ?_, hg, hn⟩
  · unfold OwnB
    rw [List.length_append, show U8 (L ++ M) = U8 L ++ U8 M by simp [U8]]
    exact ho
  · exact (Below.refl _ _).grown hg (by omega) (fun q hq => (hown.lt q hq).1)
theorem append_none (W : World) (base : Nat) (v : Value) (L : List Nat) (hown : OwnB W base v L) :
    ∀ ty, (Builtin.append_ #[26, 26] ty #[v, .slice none 0 0]).run Try.prog W = .ok v W := by
  obtain ⟨ti, hti, htz, hts, htb⟩ := info_parts info8
  intro ty
  exact run_append_owned_none (P := Try.prog) W base 26 ty 5 ti 1 Try.underlying26 hti v L.length (U8 L) hown
/-- Bytes that came in appended to a slice of the call's own. -/
theorem append_ownS (W : World) (base : Nat) (v : Value) (L M : List Nat) (hown : OwnB W base v L) (ao : Option Addr) (m c : Nat) (hm : M.length = m) (hn : ao = none → m = 0 ∧ c = 0) (hc : 0 < m → ∃ b o, ao = some ⟨b, o, none⟩ ∧ BL W b o M)
    (hlen : L.length + M.length ≤ 140737488355328) (hbase : base ≤ W.heap.size) :
    ∃ v' W', (∀ ty, (Builtin.append_ #[26, 26] ty #[v, .slice ao m c]).run Try.prog W = .ok v' W') ∧ OwnB W' base v' (L ++ M) ∧ Below base W W' ∧ W.grownBy W' v.ownBlock ∧ (v' = .slice none 0 0 ↔ v = .slice none 0 0 ∧ m = 0) := by
  cases ao with
  | none =>
    obtain ⟨rfl, rfl⟩ := hn rfl
    obtain rfl : M = [] := List.length_eq_zero_iff.1 hm
    exact ⟨v, W, append_none W base v L hown, by rw [List.append_nil]; exact hown, Below.refl _ _, ⟨rfl, rfl, rfl, Nat.le_refl _, fun _ _ _ => rfl⟩, by simp⟩
  | some ad =>
    refine append_ownB W base v L M hown ad m c hm (fun j hj => ?_) hlen hbase
    obtain ⟨b, o, h1, h2⟩ := hc (by omega)
    obtain rfl := Option.some.inj h1
    rw [addB]
    exact h2 j hj
/-- 'append([]byte{}, b...)' -/
theorem append_copy (W : World) (ao : Option Addr) (len cap : Nat) (L : List Nat) (H : L.length = len) (hl : len ≤ 100000000) (hn : ao = none → len = 0 ∧ cap = 0) (hc : 0 < len → ∃ b o, ao = some ⟨b, o, none⟩ ∧ BL W b o L) :
    ∃ g cap2 W', (∀ ty, (Builtin.append_ #[26, 26] ty #[.slice (some ⟨W.heap.size, 0, none⟩) 0 0, .slice ao len cap]).run Try.prog (W.alloc (.cells #[] 5)) = .ok (.slice (some ⟨g, 0, none⟩) len cap2) W') ∧
      OwnB W' W.heap.size (.slice (some ⟨g, 0, none⟩) len cap2) L ∧ Below W.heap.size W W' := by
  obtain ⟨v', W', h1, h2, h3, h4, h5⟩ := append_ownS (W.alloc (.cells #[] 5)) W.heap.size _ [] L (own_empty W W.heap.size (Nat.le_refl _)) ao len cap H hn (fun h => by
      obtain ⟨b, o, e, hb⟩ := hc h
      exact ⟨b, o, e, hb.below (B := W.heap.size) (bAlloc (Below.refl _ _) _) (hb.lt (by omega))⟩) (by simp; omega) (by simp)
  rw [List.nil_append] at h2
  obtain ⟨g, cap2, rfl⟩ := own_shape h2 (fun h => by cases (h5.1 h).1)
  rw [H] at h1 h2
  exact ⟨g, cap2, W', h1, h2, ((Below.refl W.heap.size W).alloc (Nat.le_refl _) _).trans h3⟩
theorem OwnB.base {w : World} {base base' : Nat} {v : Value} {L : List Nat} (h : OwnB w base v L) (hb : base' ≤ base) : OwnB w base' v L := by
  refine ⟨h.1, ?_⟩
  rcases h.2 with h | ⟨g, cap, cur, h1, h2, h3⟩
  · exact .inl h
  · exact .inr ⟨g, cap, cur, h1, by omega, h3⟩

end Go.Proofs.Ytkfimfjjmdjbdaa
/- Whole blocks that are held together, and what lies below a bound. -/
namespace Go.Proofs.Ytkfimfjjmdjbdaa
open Go.RowKit

def HR (w w1 : World) (rs : List (Nat × Array Value × TypeId)) : Prop := (∀ r ∈ rs, Row w1 r.1 r.2.1 r.2.2) ∧ Below w.heap.size w w1
section
variable {w w1 w2 : World} {rs : List (Nat × Array Value × TypeId)}
theorem HR.refl (w : World) : HR w w [] := ⟨(fun r hr => by cases hr), Below.refl _ _⟩
theorem HR.drew (h : HR w w1 rs) : HR w w1.drew rs := ⟨fun r hr => (h.1 r hr).drew, bDrew h.2⟩
theorem HR.drewN (h : HR w w1 rs) (n : Nat) : HR w (w1.drewN n) rs := ⟨fun r hr => (h.1 r hr).drewN n, bDrewN h.2 n⟩
theorem HR.like (h : HR w w1 rs) (h1 : w2.heap = w1.heap) (h2 : w2.os = w1.os) (h3 : w2.tape = w1.tape) (h4 : w2.output = w1.output) : HR w w2 rs :=
  ⟨fun r hr => (congrArg (fun a : Array Obj => a[r.1]?) h1).trans (h.1 r hr), ⟨h2.trans h.2.os, h3.trans h.2.tape, h4.trans h.2.output, by rw [h1]; exact h.2.size, fun k hk => (congrArg (fun a : Array Obj => a[k]?) h1).trans (h.2.block k hk)⟩⟩
theorem HR.sub {qs : List (Nat × Array Value × TypeId)} (h : HR w w1 rs) (hs : ∀ r ∈ qs, r ∈ rs) : HR w w1 qs := ⟨fun r hr => h.1 r (hs r hr), h.2⟩
theorem HR.next (h : HR w w1 rs) (hb : Below w1.heap.size w1 w2) : HR w w2 rs := ⟨fun r hr => (h.1 r hr).below hb (h.1 r hr).lt, bThen h.2 hb h.2.size⟩
theorem HR.alloc (h : HR w w1 rs) (o : Obj) : HR w (w1.alloc o) rs := ⟨fun r hr => (h.1 r hr).alloc o, bAlloc h.2 o⟩
theorem HR.new (h : HR w w1 rs) (cs : Array Value) (t : TypeId) : HR w (w1.alloc (.cells cs t)) ((w1.heap.size, cs, t) :: rs) :=
  ⟨fun r hr => by
    rcases List.mem_cons.1 hr with rfl | hr
    · exact Row.new _ _ _
    · exact (h.1 r hr).alloc _, bAlloc h.2 _⟩
theorem HR.row (h : HR w w1 rs) {b : Nat} {cs : Array Value} {t : TypeId} (hr : (b, cs, t) ∈ rs) : Row w1 b cs t := h.1 _ hr
theorem HR.cell (h : HR w w1 rs) {b : Nat} {cs : Array Value} {t : TypeId} (hr : (b, cs, t) ∈ rs) (i : Nat) {v : Value} (hv : cs[i]? = some v) : w1.cell? ⟨b, i, none⟩ = some v := (h.1 _ hr).cell i hv
theorem HR.free (h : HR w w1 rs) {b : Nat} {cs : Array Value} {t : TypeId} (hr : (b, cs, t) ∈ rs) (i : Nat) : w1.frozen? ⟨b, i, none⟩ = false := (h.1 _ hr).free i
theorem HR.lt (h : HR w w1 rs) {b : Nat} {cs : Array Value} {t : TypeId} (hr : (b, cs, t) ∈ rs) : b < w1.heap.size := (h.1 _ hr).lt
theorem HR.tail {r : Nat × Array Value × TypeId} (h : HR w w1 (r :: rs)) : HR w w1 rs := ⟨fun q hq => h.1 q (List.mem_cons_of_mem _ hq), h.2⟩
theorem HR.add (h : HR w w1 rs) {b : Nat} {cs : Array Value} {t : TypeId} (hr : Row w1 b cs t) : HR w w1 ((b, cs, t) :: rs) := ⟨fun q hq => by
  rcases List.mem_cons.1 hq with rfl | hq
  · exact hr
  · exact h.1 q hq, h.2⟩
theorem HR.far (h : HR w w1 rs) : (∀ r ∈ rs, r.1 ≠ w1.heap.size) ∧ w.heap.size ≤ w1.heap.size := ⟨fun r hr => Nat.ne_of_lt (h.1 r hr).lt, h.2.size⟩
theorem HR.other (h : HR w w1 rs) {D o : Nat} {v : Value} (hne : ∀ r ∈ rs, r.1 ≠ D) (hD : w.heap.size ≤ D) : HR w (w1.setCell ⟨D, o, none⟩ v) rs := ⟨fun r hr => (h.1 r hr).other (hne r hr), bSet h.2 hD⟩
theorem HR.put {D : Nat} {cs : Array Value} {t : TypeId} (h : HR w w1 ((D, cs, t) :: rs)) (hne : ∀ r ∈ rs, r.1 ≠ D) (hD : w.heap.size ≤ D) (o : Nat) (v : Value) : HR w (w1.setCell ⟨D, o, none⟩ v) ((D, cs.setIfInBounds o v, t) :: rs) :=
  (h.tail.other hne hD).add ((h.1 _ (List.mem_cons_self ..)).set o v)
end

end Go.Proofs.Ytkfimfjjmdjbdaa
/- Walks: package tx: a number's bytes, a point's. -/
namespace Go.Proofs.Ytkfimfjjmdjbdaa
open Go.RowKit

/-- Every block that holds no bytes stays. -/
def KeepT (w w' : World) : Prop := ∀ (k : Nat) (cs : Array Value) (t : TypeId), t ≠ 5 → Row w k cs t → Row w' k cs t
theorem KeepT.refl (w : World) : KeepT w w := fun _ _ _ _ h => h
theorem KeepT.trans {w w' w'' : World} (h : KeepT w w') (g : KeepT w' w'') : KeepT w w'' := fun k cs t ht hr => g k cs t ht (h k cs t ht hr)
theorem KeepT.below {w w' : World} (h : Below w.heap.size w w') : KeepT w w' := fun _ _ _ _ hr => hr.below h hr.lt
theorem KeepT.drewN (w : World) (n : Nat) : KeepT w (w.drewN n) := fun _ _ _ _ hr => hr.drewN n
theorem KeepT.alloc (w : World) (o : Obj) : KeepT w (w.alloc o) := fun _ _ _ _ hr => hr.alloc o
theorem KeepT.grown {W W' : World} {base : Nat} {v : Value} {L : List Nat} (hO : OwnB W base v L) (hg : W.grownBy W' v.ownBlock) : KeepT W W' := fun k cs t ht hr => by
  refine (hg.block k hr.lt (fun e => ht ?_)).trans hr
  rcases hO.2 with ⟨rfl, _⟩ | ⟨g, cap, cur, rfl, _, hb, _⟩
  · cases e
  · have : g = k := (by simpa [Value.ownBlock] using e : k = g).symm
    subst this
    have h2 : W.heap[g]? = some (.cells cs t) := hr
    rw [hb] at h2
    injection h2 with h3
    injection h3 with _ h4
    exact h4.symm
theorem HR.keep {w w1 w2 : World} {rs : List (Nat × Array Value × TypeId)} (h : HR w w1 rs) (hk : KeepT w1 w2) (hb : Below w.heap.size w1 w2) (ht : ∀ r ∈ rs, r.2.2 ≠ 5) : HR w w2 rs :=
  ⟨fun r hr => hk _ _ _ (ht r hr) (h.1 r hr), h.2.trans hb⟩

set_option maxRecDepth 8000 in
set_option maxHeartbeats 1000000 in
theorem txPut (base : Nat) (v : Value) (L : List Nat) (k : Int) (hk0 : 0 ≤ k) (hk1 : k ≤ 18446744073709551615) (hL : L.length ≤ 1000) (w : World) (hB : base ≤ w.heap.size) (hown : OwnB w base v L) :
    Calls Try.prog 27 #[v, .int .u64 k] w fun e w' => ∃ v', e = .returned v' ∧ OwnB w' base v' (L ++ Obol.be8 k.toNat) ∧ Below base w w' ∧ KeepT w w' := by
  obtain ⟨ti, hti, htz, hts, htb⟩ := info_parts info8
  go_enter Try.func27, Try.ntmps27
  go_wp2_with fail
  go_loopw [0, 5] (fun q1 q2 wr => ∃ j : Nat, j ≤ 8 ∧ q2 = .int .i64 (56 - 8 * (j : Int)) ∧ OwnB wr base q1 (L ++ (Obol.be8 k.toNat).take j) ∧ Below base w wr ∧ Hid (KeepT w wr)) (fun _ q2 _ => (8 + intOf q2).toNat)
  case atStart => exact ⟨0, by omega, rfl, by simpa using hown, Below.refl _ _, Lib.hid (KeepT.refl w)⟩
  case round =>
    obtain ⟨j, hj, rfl, hO, hW, hK⟩ := hrel
    have hsz := hW.size
    by_cases hj8 : j < 8
    · have hlen : (L ++ (Obol.be8 k.toNat).take j).length = L.length + j := by simp [Obol.be8]; omega
      go_wp2_with (first
        | (at_builtin; refine wpList_append_own _ rfl _ _ 26 rfl base 5 ti (.int .u8 0) 1 1 Try.underlying26 hti htz hts htb rfl (by decide) _ _ _ rfl (hO.alloc _) ⟨wr.heap.size, 0, none⟩ 1 1 [.int .u8 (k / 2 ^ (56 - 8 * j) % 256)] ?c0 rfl ?c1 ?c2 ?c3 ?c4 ?c5 ?_)
        | go_in)
      case c0 => rfl
      case c1 =>
        intro q u hq
        match q, hq with
        | 0, hq => simp at hq; subst hq; simp [Addr.add]
      case c2 => intro u hu; simp at hu; subst hu; rfl
      case c3 => rw [hlen]; unfold maxLen; omega
      case c4 => rw [hlen]; omega
      case c5 => simp; omega
      · intro v' w1 hown' hgrow _
        have hrow := hO.lt
        have HO : OwnB w1 base v' (L ++ (Obol.be8 k.toNat).take (j + 1)) := by
          have e : L ++ (Obol.be8 k.toNat).take (j + 1) = (L ++ (Obol.be8 k.toNat).take j) ++ [k.toNat / 2 ^ (56 - 8 * j) % 256] := by rw [take_be _ _ hj8, List.append_assoc]
          have e2 : Value.int .u8 (k / 2 ^ (56 - 8 * j) % 256) = Value.int .u8 ((k.toNat / 2 ^ (56 - 8 * j) % 256 : Nat) : Int) := by
            obtain ⟨K, rfl⟩ := Int.eq_ofNat_of_zero_le hk0
            simp
          have e5 : ((L ++ (Obol.be8 k.toNat).take j) ++ [k.toNat / 2 ^ (56 - 8 * j) % 256]).length = L.length + j + 1 := by rw [List.length_append, hlen]; rfl
          unfold OwnB
          rw [e, e5]
          rw [e2] at hown'
          simpa [U8] using hown'
        have HW : Below base w w1 := (hW.alloc (by omega) _).grown hgrow (by simp; omega) (fun q hq => (hrow q hq).1)
        have HK := Lib.hid ((hK.out.trans (KeepT.alloc wr _)).trans (KeepT.grown (hO.alloc _) hgrow))
        replace HO := Lib.hid HO
        replace HW := Lib.hid HW
        clear hown' hgrow hO hW hrow hlen hK
        go_wp2
        go_roundw
        case rel => exact ⟨j + 1, by omega, by simp; omega, HO.out, HW.out, HK⟩
        case measure => simp [intOf]; omega
    · obtain rfl : j = 8 := by omega
      go_wp2_with fail
      go_ret
      exact ⟨_, rfl, hO, hW, hK.out⟩

set_option maxRecDepth 8000 in
set_option maxHeartbeats 1000000 in
theorem txPoint (base : Nat) (v : Value) (L : List Nat) (X Y : Int) (hX : 0 ≤ X) (hY : 0 ≤ Y) (hn : Obol.isN (X.toNat, Y.toNat) = true) (hL : L.length ≤ 1000) (w : World) (hB : base ≤ w.heap.size) (hown : OwnB w base v L) :
    Calls Try.prog 28 #[v, edV X Y] w fun e w' => ∃ v', e = .returned v' ∧ OwnB w' base v' (L ++ Obol.be8 (Obol.codeN (X.toNat, Y.toNat))) ∧ Below base w w' ∧ KeepT w w' := by
  have cW := Lib.hid (fun w => eWrite X Y hX hY hn w)
  have O := Lib.hid hown
  have R := Row.new w #[.int .u64 X, .int .u64 Y] 24
  have c0 := R.cell 0 rfl
  have c1 := R.cell 1 rfl
  have B := Lib.hid (bAlloc (Below.refl _ w) (.cells #[.int .u64 X, .int .u64 Y] 24))
  clear R hown hn
  go_enter Try.func28, Try.ntmps28
  go_wp2_with fail
  refine (cW.out _).mono ?_
  rintro e w1 ⟨u, rfl, hO, hb⟩
  have B1 := bThen B.out hb B.out.size
  obtain ⟨g, cap, cur, rfl, hge, hr, hle, hm, hsz, htk⟩ := hO.size (by show 0 < 8; decide)
  have O1 := O.out.below B1
  have hbl := hO.bl
  obtain ⟨v2, w2, hap, hO2, hb2, hg2, -⟩ := append_ownB w1 base v L (Obol.be8 (Obol.codeN (X.toNat, Y.toNat))) O1 ⟨g, 0, none⟩ 8 cap rfl (fun k hk => by rw [addB]; exact hbl k hk) (by show L.length + 8 ≤ 140737488355328; omega) (Nat.le_trans hB B1.size)
  have K2 := Lib.hid ((KeepT.below B1).trans (KeepT.grown O1 hg2))
  have O2 := Lib.hid hO2
  have B2 := Lib.hid ((B1.mono hB).trans hb2)
  clear hO hb hge hr hle hm hsz htk O1 hbl hO2 hb2 B1 hg2
  go_wp2_with (at_builtin; refine wpList_appended rfl _ _ _ _ rfl _ _ _ rfl rfl hap ?_)
  go_ret
  exact ⟨_, rfl, O2.out, B2.out, K2.out⟩

end Go.Proofs.Ytkfimfjjmdjbdaa
/- The field of P elements. -/
namespace Obol

theorem P_pos : 0 < P := by decide +kernel
instance : NeZero P := ⟨by decide +kernel⟩
abbrev Fp := Fin P

def fp (a : Nat) : Fp := ⟨a % P, Nat.mod_lt _ P_pos⟩
theorem fp_val (a : Nat) : (fp a).val = a % P := rfl
theorem fp_of (a : Fp) : fp a.val = a := Fin.ext (Nat.mod_eq_of_lt a.isLt)
theorem pval_mul (a b : Fp) : (a * b).val = a.val * b.val % P := rfl
theorem pval_add (a b : Fp) : (a + b).val = (a.val + b.val) % P := rfl
theorem pval_sub (a b : Fp) : (a - b).val = (P - b.val + a.val) % P := rfl
theorem pval_neg (a : Fp) : (-a).val = (P - a.val) % P := rfl
theorem pval_num (n : Nat) : (OfNat.ofNat n : Fp).val = n % P := rfl
theorem pval_zero : (0 : Fp).val = 0 := by rw [pval_num]; decide +kernel
theorem pval_one : (1 : Fp).val = 1 := by rw [pval_num]; decide +kernel
theorem pval_eq_zero {a : Fp} : a = 0 ↔ a.val = 0 := by
  constructor
  · intro h; rw [h, pval_zero]
  · intro h; exact Fin.ext (by rw [h, pval_zero])

def fpinv (a : Fp) : Fp := ⟨powm P 64 a.val (P - 2), powm_lt _ _ _ _ P_pos⟩
theorem fpinv_val (a : Fp) : (fpinv a).val = a.val ^ (P - 2) % P := powm_eq P 64 a.val (P - 2) (by decide +kernel)

theorem fp_dom (a b : Fp) (h : a * b = 0) : a = 0 ∨ b = 0 := by
  rw [pval_eq_zero, pval_mul] at h
  refine Classical.byContradiction fun hn => ?_
  have hn := not_or.1 hn
  refine rootP.nonzero (a := a.val) (b := b.val) ?_ ?_ h
  · rw [Nat.mod_eq_of_lt a.isLt]; exact fun e => hn.1 (pval_eq_zero.2 e)
  · rw [Nat.mod_eq_of_lt b.isLt]; exact fun e => hn.2 (pval_eq_zero.2 e)

theorem fpinv_mul (a : Fp) (h : a ≠ 0) : a * fpinv a = 1 := by
  refine Fin.ext ?_
  rw [pval_mul, fpinv_val, pval_one, Nat.mul_mod, Nat.mod_mod, ← Nat.mul_mod, Nat.mul_comm, ← Nat.pow_succ]
  have := rootP.fermat a.val (by rw [Nat.mod_eq_of_lt a.isLt]; exact fun e => h (pval_eq_zero.2 e))
  rwa [show (P - 2).succ = P - 1 by decide +kernel]

end Obol
/- Plain: points X / Z Z, Y / Z Z Z of y y = x x x + x: doubling and adding. -/
namespace Obol

/-- The double of a point that is not its own opposite. -/
theorem jac_twice {x y l X Y Z : Fp} (hX : X = x * (Z * Z)) (hY : Y = y * (Z * Z * Z)) (hl : l * (y + y) = 3 * (x * x) + 1) :
    (3 * (X * X) + Z * Z * (Z * Z)) * (3 * (X * X) + Z * Z * (Z * Z)) - (4 * (X * (Y * Y)) + 4 * (X * (Y * Y))) = (l * l - (x + x)) * ((2 * (Y * Z)) * (2 * (Y * Z))) := by
  subst hX hY
  have h2 : 3 * (x * (Z * Z) * (x * (Z * Z))) + Z * Z * (Z * Z) = (l * (y + y)) * (Z * Z * (Z * Z)) := by rw [hl]; grind
  rw [h2]
  grind
theorem jac_twice_y {x y l X Y Z x' : Fp} (hX : X = x * (Z * Z)) (hY : Y = y * (Z * Z * Z)) (hl : l * (y + y) = 3 * (x * x) + 1) (hx : x' = (l * l - (x + x)) * ((2 * (Y * Z)) * (2 * (Y * Z)))) :
    (3 * (X * X) + Z * Z * (Z * Z)) * (4 * (X * (Y * Y)) - x') - 8 * (Y * Y * (Y * Y)) = (l * (x - (l * l - (x + x))) - y) * ((2 * (Y * Z)) * (2 * (Y * Z)) * (2 * (Y * Z))) := by
  subst hX hY hx
  have h2 : 3 * (x * (Z * Z) * (x * (Z * Z))) + Z * Z * (Z * Z) = (l * (y + y)) * (Z * Z * (Z * Z)) := by rw [hl]; grind
  rw [h2]
  grind
/-- A point and another one, of another x. -/
theorem jac_more {x y bx bY l X Y Z h r : Fp} (hX : X = x * (Z * Z)) (hY : Y = y * (Z * Z * Z)) (hl : l * (bx - x) = bY - y) (hh : h = bx * (Z * Z) - X) (hr : r = bY * (Z * Z * Z) - Y) :
    r * r - h * (h * h) - (X * (h * h) + X * (h * h)) = (l * l - (x + bx)) * ((h * Z) * (h * Z)) := by
  have e1 : h = (bx - x) * (Z * Z) := by subst hh hX; grind
  have e2 : r = l * (bx - x) * (Z * Z * Z) := by rw [hl]; subst hr hY; grind
  clear hh hr
  subst e1 e2 hX
  grind
theorem jac_more_y {x y bx bY l X Y Z h r x' : Fp} (hX : X = x * (Z * Z)) (hY : Y = y * (Z * Z * Z)) (hl : l * (bx - x) = bY - y) (hh : h = bx * (Z * Z) - X) (hr : r = bY * (Z * Z * Z) - Y) (hx : x' = (l * l - (x + bx)) * ((h * Z) * (h * Z))) :
    r * (X * (h * h) - x') - Y * (h * (h * h)) = (l * (x - (l * l - (x + bx))) - y) * ((h * Z) * (h * Z) * (h * Z)) := by
  have e1 : h = (bx - x) * (Z * Z) := by subst hh hX; grind
  have e2 : r = l * (bx - x) * (Z * Z * Z) := by rw [hl]; subst hr hY; grind
  clear hh hr
  subst hx e1 e2 hX hY
  grind
/-- The sum of two points of the curve is one of it. -/
theorem on_sum {x y bx bY l : Fp} (h1 : y * y = x * x * x + x) (h2 : bY * bY = bx * bx * bx + bx) (hne : bx - x ≠ 0) (hl : l * (bx - x) = bY - y) :
    (l * (x - (l * l - (x + bx))) - y) * (l * (x - (l * l - (x + bx))) - y) = (l * l - (x + bx)) * (l * l - (x + bx)) * (l * l - (x + bx)) + (l * l - (x + bx)) := by
  have key : (bx - x) * ((l * (x - (l * l - (x + bx))) - y) * (l * (x - (l * l - (x + bx))) - y) - ((l * l - (x + bx)) * (l * l - (x + bx)) * (l * l - (x + bx)) + (l * l - (x + bx)))) = 0 := by
    have hb : bY = y + l * (bx - x) := by rw [hl]; grind
    subst hb
    grind
  rcases fp_dom _ _ key with h | h
  · exact (hne h).elim
  · grind
/-- The double of a point of the curve is one of it. -/
theorem on_double {x y l : Fp} (h1 : y * y = x * x * x + x) (hne : y + y ≠ 0) (hl : l * (y + y) = 3 * (x * x) + 1) :
    (l * (x - (l * l - (x + x))) - y) * (l * (x - (l * l - (x + x))) - y) = (l * l - (x + x)) * (l * l - (x + x)) * (l * l - (x + x)) + (l * l - (x + x)) := by
  have key : (y + y) * ((l * (x - (l * l - (x + x))) - y) * (l * (x - (l * l - (x + x))) - y) - ((l * l - (x + x)) * (l * l - (x + x)) * (l * l - (x + x)) + (l * l - (x + x)))) = 0 := by
    grind
  rcases fp_dom _ _ key with h | h
  · exact (hne h).elim
  · grind
/-- Two points of one x are one point, or opposite. -/
theorem on_same {x y bY : Fp} (h1 : y * y = x * x * x + x) (h2 : bY * bY = x * x * x + x) : bY = y ∨ y + bY = 0 := by
  have key : (bY - y) * (y + bY) = 0 := by grind
  rcases fp_dom _ _ key with h | h
  · exact .inl (by grind)
  · exact .inr h

end Obol
/- Plain: the curve y y = x x x + x modulo P: sums and multiples as the reference has them, and as the program has them (scaled); they tell Inf alike. -/
namespace Obol

def mulPQ (a b : Nat) : Nat := a * b % P
def addPQ (a b : Nat) : Nat := (a + b) % P
def subPQ (a b : Nat) : Nat := (a % P + P - b % P) % P
noncomputable def mulP : Nat → Nat → Nat := (shut mulPQ).1
noncomputable def addP : Nat → Nat → Nat := (shut addPQ).1
noncomputable def subP : Nat → Nat → Nat := (shut subPQ).1
noncomputable def invP : Nat → Nat := (shut (fun b : Nat => b ^ (P - 2) % P)).1
theorem mulP_eq : mulP = mulPQ := (shut mulPQ).2
theorem addP_eq : addP = addPQ := (shut addPQ).2
theorem subP_eq : subP = subPQ := (shut subPQ).2
theorem invP_eq (b : Nat) : invP b = b ^ (P - 2) % P := congrFun (shut (fun b : Nat => b ^ (P - 2) % P)).2 b
noncomputable def overP (a b : Nat) : Nat := mulP a (invP b)
theorem mulP_lt (a b : Nat) : mulP a b < P := by rw [mulP_eq]; exact Nat.mod_lt _ P_pos
theorem addP_lt (a b : Nat) : addP a b < P := by rw [addP_eq]; exact Nat.mod_lt _ P_pos
theorem subP_lt (a b : Nat) : subP a b < P := by rw [subP_eq]; exact Nat.mod_lt _ P_pos
theorem mulP_comm (a b : Nat) : mulP a b = mulP b a := by rw [mulP_eq, mulPQ, mulPQ, Nat.mul_comm]

theorem mulP_val (a b : Fp) : mulP a.val b.val = (a * b).val := by rw [mulP_eq]; rfl
theorem addP_val (a b : Fp) : addP a.val b.val = (a + b).val := by rw [addP_eq]; rfl
theorem subP_val (a b : Fp) : subP a.val b.val = (a - b).val := by
  rw [pval_sub, subP_eq, subPQ, Nat.mod_eq_of_lt a.isLt, Nat.mod_eq_of_lt b.isLt]
  congr 1
  have := a.isLt
  have := b.isLt
  omega
theorem invP_val (a : Fp) : invP a.val = (fpinv a).val := by rw [invP_eq, fpinv_val]
theorem overP_val (a b : Fp) : overP a.val b.val = (a * fpinv b).val := by rw [overP, invP_val, mulP_val]
theorem two_pval : (2 : Fp).val = 2 := by decide +kernel
theorem three_pval : (3 : Fp).val = 3 := by decide +kernel
theorem four_pval : (4 : Fp).val = 4 := by decide +kernel
theorem eight_pval : (8 : Fp).val = 8 := by decide +kernel

/-- Is a pair a point that isn't Inf? -/
noncomputable def isC (x y : Nat) : Bool := decide (x < P) && decide (y < P) && decide (mulP y y = addP (mulP (mulP x x) x) x)
theorem isC_on {x y : Fp} : isC x.val y.val = true ↔ y * y = x * x * x + x := by
  unfold isC
  rw [decide_eq_true x.isLt, decide_eq_true y.isLt, Bool.true_and, Bool.true_and, decide_eq_true_eq, mulP_val, mulP_val, mulP_val, addP_val]
  exact ⟨fun h => Fin.ext h, fun h => by rw [h]⟩

/-- A sum, as the reference has it. -/
noncomputable def slopeC (a b : Nat × Nat) : Nat :=
  if a.1 = b.1 then overP (addP (mulP 3 (mulP a.1 a.1)) 1) (mulP 2 a.2) else overP (subP b.2 a.2) (subP b.1 a.1)
noncomputable def lineC (l : Nat) (a b : Nat × Nat) : Nat × Nat :=
  (subP (mulP l l) (addP a.1 b.1), subP (mulP l (subP a.1 (subP (mulP l l) (addP a.1 b.1)))) a.2)
noncomputable def sumC : Option (Nat × Nat) → Option (Nat × Nat) → Option (Nat × Nat)
  | .none, q => q
  | .some p, .none => .some p
  | .some p, .some q => if p.1 = q.1 ∧ addP p.2 q.2 = 0 then .none else .some (lineC (slopeC p q) p q)
noncomputable def timC (a : Nat × Nat) (k : Nat) : Nat → Option (Nat × Nat) → Option (Nat × Nat)
  | 0, out => out
  | j + 1, out => timC a k j (if k / 2 ^ j % 2 = 1 then sumC (sumC out out) (.some a) else sumC out out)

/-- Doubling and adding, as the program has them. -/
noncomputable def twC (a : Nat × Nat × Nat) : Nat × Nat × Nat :=
  let y2 := mulP a.2.1 a.2.1
  let s := mulP 4 (mulP a.1 y2)
  let z2 := mulP a.2.2 a.2.2
  let m := addP (mulP 3 (mulP a.1 a.1)) (mulP z2 z2)
  let x := subP (mulP m m) (addP s s)
  (x, subP (mulP m (subP s x)) (mulP 8 (mulP y2 y2)), mulP 2 (mulP a.2.1 a.2.2))
noncomputable def moC (a : Nat × Nat × Nat) (b : Nat × Nat) : Nat × Nat × Nat :=
  let z2 := mulP a.2.2 a.2.2
  let h := subP (mulP b.1 z2) a.1
  let r := subP (mulP b.2 (mulP z2 a.2.2)) a.2.1
  let h2 := mulP h h
  let h3 := mulP h h2
  let v := mulP a.1 h2
  let x := subP (subP (mulP r r) h3) (addP v v)
  if a.2.2 = 0 then (b.1, b.2, 1) else if h = 0 ∧ r = 0 then twC a else (x, subP (mulP r (subP v x)) (mulP a.2.1 h3), mulP h a.2.2)
noncomputable def upC (a : Nat × Nat × Nat) : Nat × Nat × Nat := if a.2.2 = 0 then a else twC a
noncomputable def jacC (a : Nat × Nat) (k : Nat) : Nat → Nat × Nat × Nat → Nat × Nat × Nat
  | 0, out => out
  | j + 1, out => jacC a k j (if k / 2 ^ j % 2 = 1 then moC (upC out) a else upC out)

/-- Three numbers that stand for a point, or Inf. -/
inductive Rep : Nat × Nat × Nat → Option (Nat × Nat) → Prop
  | inf (X Y : Fp) : Rep (X.val, Y.val, 0) Option.none
  | pt (X Y Z x y : Fp) (hz : Z ≠ 0) (on : y * y = x * x * x + x) (hX : X = x * (Z * Z)) (hY : Y = y * (Z * Z * Z)) : Rep (X.val, Y.val, Z.val) (.some (x.val, y.val))
theorem Rep.of {X Y Z : Fp} {n : Nat × Nat × Nat} {p : Option (Nat × Nat)} (h : Rep (X.val, Y.val, Z.val) p) (e : n = (X.val, Y.val, Z.val)) : Rep n p := by rw [e]; exact h
theorem twC_val (X Y Z : Fp) : twC (X.val, Y.val, Z.val) =
    (((3 * (X * X) + Z * Z * (Z * Z)) * (3 * (X * X) + Z * Z * (Z * Z)) - (4 * (X * (Y * Y)) + 4 * (X * (Y * Y)))).val,
     ((3 * (X * X) + Z * Z * (Z * Z)) * (4 * (X * (Y * Y)) - ((3 * (X * X) + Z * Z * (Z * Z)) * (3 * (X * X) + Z * Z * (Z * Z)) - (4 * (X * (Y * Y)) + 4 * (X * (Y * Y))))) - 8 * (Y * Y * (Y * Y))).val,
     (2 * (Y * Z)).val) := by
  unfold twC
  simp only
  rw [← two_pval, ← three_pval, ← four_pval, ← eight_pval]
  simp only [mulP_val, addP_val, subP_val]
theorem fp_half {y : Fp} (h : y + y = 0) : y = 0 := by
  have h2 : (2 : Fp) * y = 0 := by grind
  rcases fp_dom _ _ h2 with h | h
  · exact absurd (congrArg Fin.val h) (by rw [two_pval, pval_zero]; decide)
  · exact h
theorem fp_ne_mul {a b : Fp} (ha : a ≠ 0) (hb : b ≠ 0) : a * b ≠ 0 := fun h => by
  rcases fp_dom _ _ h with h | h
  · exact ha h
  · exact hb h
theorem fp_two_ne : (2 : Fp) ≠ 0 := fun h => absurd (congrArg Fin.val h) (by rw [two_pval, pval_zero]; decide)
theorem sumC_double (x y : Fp) : sumC (.some (x.val, y.val)) (.some (x.val, y.val)) = if y + y = 0 then Option.none else
    .some (((3 * (x * x) + 1) * fpinv (2 * y) * ((3 * (x * x) + 1) * fpinv (2 * y)) - (x + x)).val,
      ((3 * (x * x) + 1) * fpinv (2 * y) * (x - ((3 * (x * x) + 1) * fpinv (2 * y) * ((3 * (x * x) + 1) * fpinv (2 * y)) - (x + x))) - y).val) := by
  by_cases h : y + y = 0
  · rw [if_pos h]
    exact if_pos ⟨rfl, by rw [addP_val, h, pval_zero]⟩
  · rw [if_neg h]
    refine (if_neg (fun e => h (pval_eq_zero.2 (by rw [← addP_val]; exact e.2)))).trans ?_
    unfold lineC slopeC
    rw [if_pos rfl, ← two_pval, ← three_pval, ← pval_one]
    simp only [mulP_val, addP_val, subP_val, overP_val]
theorem sumC_other (x y a b : Fp) (hne : x ≠ a) : sumC (.some (x.val, y.val)) (.some (a.val, b.val)) =
    .some (((b - y) * fpinv (a - x) * ((b - y) * fpinv (a - x)) - (x + a)).val,
      ((b - y) * fpinv (a - x) * (x - ((b - y) * fpinv (a - x) * ((b - y) * fpinv (a - x)) - (x + a))) - y).val) := by
  have hv : x.val ≠ a.val := fun e => hne (Fin.ext e)
  unfold sumC lineC slopeC
  simp only [hv, false_and, if_false]
  simp only [mulP_val, addP_val, subP_val, overP_val]
theorem sumC_same (x y b : Fp) (h : y + b = 0) : sumC (.some (x.val, y.val)) (.some (x.val, b.val)) = Option.none := by
  exact if_pos ⟨rfl, by rw [addP_val, h, pval_zero]⟩

theorem rep_twice {X Y Z x y : Fp} (hz : Z ≠ 0) (on : y * y = x * x * x + x) (hX : X = x * (Z * Z)) (hY : Y = y * (Z * Z * Z)) :
    Rep (twC (X.val, Y.val, Z.val)) (sumC (.some (x.val, y.val)) (.some (x.val, y.val))) := by
  rw [twC_val, sumC_double]
  by_cases h : y + y = 0
  · rw [if_pos h]
    have h0 : (2 * (Y * Z)).val = 0 := by rw [hY, fp_half h]; rw [show (2 * (0 * (Z * Z * Z) * Z) : Fp) = 0 by grind, pval_zero]
    rw [h0]
    exact .inf _ _
  · rw [if_neg h]
    have hi : (3 * (x * x) + 1) * fpinv (2 * y) * (y + y) = 3 * (x * x) + 1 := by
      have h2 : (2 : Fp) * y ≠ 0 := fun e => h (by grind)
      have := fpinv_mul _ h2
      generalize fpinv (2 * y) = i at this
      grind
    generalize (3 * (x * x) + 1) * fpinv (2 * y) = l at hi
    have e1 := jac_twice (X := X) (Y := Y) (Z := Z) hX hY hi
    have e2 := jac_twice_y (X := X) (Y := Y) (Z := Z) hX hY hi e1
    refine .pt _ _ _ _ _ ?_ (on_double on h hi) e1 e2
    refine fp_ne_mul fp_two_ne (fp_ne_mul ?_ hz)
    rw [hY]
    exact fp_ne_mul (fun e => h (by grind)) (fp_ne_mul (fp_ne_mul hz hz) hz)

theorem rep_up {t : Nat × Nat × Nat} {p : Option (Nat × Nat)} (h : Rep t p) : Rep (upC t) (sumC p p) := by
  cases h with
  | inf X Y => exact .inf X Y
  | pt X Y Z x y hz on hX hY =>
    unfold upC
    rw [if_neg (fun e => hz (pval_eq_zero.2 e))]
    exact rep_twice hz on hX hY

theorem moC_val (X Y Z a b : Fp) (hz : Z ≠ 0) : moC (X.val, Y.val, Z.val) (a.val, b.val) =
    let h := a * (Z * Z) - X
    let r := b * (Z * Z * Z) - Y
    if h = 0 ∧ r = 0 then twC (X.val, Y.val, Z.val) else
    ((r * r - h * (h * h) - (X * (h * h) + X * (h * h))).val,
     (r * (X * (h * h) - (r * r - h * (h * h) - (X * (h * h) + X * (h * h)))) - Y * (h * (h * h))).val,
     (h * Z).val) := by
  have hz0 : Z.val ≠ 0 := fun e => hz (pval_eq_zero.2 e)
  unfold moC
  simp only [hz0, if_false]
  simp only [mulP_val, addP_val, subP_val, ← pval_eq_zero]

theorem rep_more {t : Nat × Nat × Nat} {p : Option (Nat × Nat)} (h : Rep t p) (a b : Fp) (hab : b * b = a * a * a + a) : Rep (moC t (a.val, b.val)) (sumC p (.some (a.val, b.val))) := by
  cases h with
  | inf X Y =>
    have h1 : (1 : Fp) ≠ 0 := fun e => absurd (congrArg Fin.val e) (by rw [pval_one, pval_zero]; decide)
    have := Rep.pt a b 1 a b h1 hab (by grind) (by grind)
    rw [pval_one] at this
    exact this
  | pt X Y Z x y hz on hX hY =>
    rw [moC_val _ _ _ _ _ hz]
    simp only
    by_cases hx : x = a
    · subst hx
      have hh : x * (Z * Z) - X = 0 := by rw [hX]; grind
      rcases on_same on hab with e | e
      · subst e
        rw [if_pos ⟨hh, by rw [hY]; grind⟩]
        exact rep_twice hz on hX hY
      · rw [sumC_same _ _ _ e]
        by_cases hr : b * (Z * Z * Z) - Y = 0
        · rw [if_pos ⟨hh, hr⟩]
          have hb : b = y := by
            have h3 : (b - y) * (Z * Z * Z) = 0 := by rw [hY] at hr; grind
            rcases fp_dom _ _ h3 with h | h
            · grind
            · exact absurd h (fp_ne_mul (fp_ne_mul hz hz) hz)
          subst hb
          have := rep_twice hz on hX hY
          rwa [sumC_double, if_pos e] at this
        · rw [if_neg (fun h => hr h.2)]
          have h0 : ((x * (Z * Z) - X) * Z).val = 0 := by rw [hh, show (0 * Z : Fp) = 0 by grind, pval_zero]
          rw [h0]
          exact .inf _ _
    · have hd : a - x ≠ 0 := fun e => hx (by grind)
      have e0 : a * (Z * Z) - X = (a - x) * (Z * Z) := by rw [hX]; grind
      have hh : a * (Z * Z) - X ≠ 0 := by rw [e0]; exact fp_ne_mul hd (fp_ne_mul hz hz)
      rw [if_neg (fun h => hh h.1), sumC_other _ _ _ _ hx]
      have hi : (b - y) * fpinv (a - x) * (a - x) = b - y := by
        have := fpinv_mul _ hd
        generalize fpinv (a - x) = i at this
        grind
      generalize (b - y) * fpinv (a - x) = l at hi
      have e1 := jac_more (X := X) (Y := Y) (Z := Z) (h := a * (Z * Z) - X) (r := b * (Z * Z * Z) - Y) hX hY hi rfl rfl
      have e2 := jac_more_y (X := X) (Y := Y) (Z := Z) (h := a * (Z * Z) - X) (r := b * (Z * Z * Z) - Y) hX hY hi rfl rfl e1
      exact .pt _ _ _ _ _ (fp_ne_mul hh hz) (on_sum on hab hd hi) e1 e2

theorem rep_times (a b : Fp) (hab : b * b = a * a * a + a) (k : Nat) : ∀ (j : Nat) (t : Nat × Nat × Nat) (p : Option (Nat × Nat)), Rep t p → Rep (jacC (a.val, b.val) k j t) (timC (a.val, b.val) k j p)
  | 0, _, _, h => h
  | j + 1, t, p, h => by
    unfold jacC timC
    by_cases hb : k / 2 ^ j % 2 = 1
    · rw [if_pos hb, if_pos hb]
      exact rep_times a b hab k j _ _ (rep_more (rep_up h) a b hab)
    · rw [if_neg hb, if_neg hb]
      exact rep_times a b hab k j _ _ (rep_up h)

theorem rep_none {t : Nat × Nat × Nat} {p : Option (Nat × Nat)} (h : Rep t p) : t.2.2 = 0 ↔ p = Option.none := by
  cases h with
  | inf X Y => simp
  | pt X Y Z x y hz on hX hY => exact ⟨fun e => absurd (pval_eq_zero.2 e) hz, fun e => by cases e⟩

/-- A point's multiple is Inf where the scaled one's Z is 0. -/
theorem jac_inf {x y : Nat} (h : isC x y = true) (k : Nat) : (jacC (x, y) k 64 (0, 0, 0)).2.2 = 0 ↔ timC (x, y) k 64 Option.none = Option.none := by
  have h' := h
  unfold isC at h'
  simp only [Bool.and_eq_true, decide_eq_true_eq] at h'
  have on := (isC_on (x := ⟨x, h'.1.1⟩) (y := ⟨y, h'.1.2⟩)).1 h
  refine rep_none (rep_times ⟨x, h'.1.1⟩ ⟨y, h'.1.2⟩ on k 64 (0, 0, 0) Option.none ?_)
  have := Rep.inf 0 0
  rwa [pval_zero] at this
theorem jacC_lt {a : Nat × Nat} (ha : a.1 < P ∧ a.2 < P) (k : Nat) : ∀ (j : Nat) (t : Nat × Nat × Nat), t.1 < P ∧ t.2.1 < P ∧ t.2.2 < P → (jacC a k j t).1 < P ∧ (jacC a k j t).2.1 < P ∧ (jacC a k j t).2.2 < P := by
  have h2 : ∀ t, (twC t).1 < P ∧ (twC t).2.1 < P ∧ (twC t).2.2 < P := fun t => ⟨subP_lt _ _, subP_lt _ _, mulP_lt _ _⟩
  have hu : ∀ t : Nat × Nat × Nat, t.1 < P ∧ t.2.1 < P ∧ t.2.2 < P → (upC t).1 < P ∧ (upC t).2.1 < P ∧ (upC t).2.2 < P := fun t h => by
    unfold upC; split
    · exact h
    · exact h2 t
  have hm : ∀ t : Nat × Nat × Nat, (moC t a).1 < P ∧ (moC t a).2.1 < P ∧ (moC t a).2.2 < P := fun t => by
    unfold moC
    simp only
    split
    · exact ⟨ha.1, ha.2, show 1 < P by decide +kernel⟩
    · split
      · exact h2 t
      · exact ⟨subP_lt _ _, subP_lt _ _, mulP_lt _ _⟩
  intro j
  induction j with
  | zero => intro t h; exact h
  | succ j ih =>
    intro t h
    unfold jacC
    split
    · exact ih _ (hm _)
    · exact ih _ (hu _ h)

end Obol
/- Walks: package curve: what is reckoned with numbers, whether three values are a point. -/
namespace Go.Proofs.Ytkfimfjjmdjbdaa
open Go.RowKit

theorem litP : (1152921505151057923 : Int).toNat = Obol.P := by decide +kernel
theorem PAdd (a b : Int) (ha : 0 ≤ a) (hb : 0 ≤ b) (w : World) :
    Calls Try.prog 68 #[.int .u64 1152921505151057923, .int .u64 a, .int .u64 b] w fun e w' => e = .returned (.int .u64 ((Obol.addP a.toNat b.toNat : Nat) : Int)) ∧ ∃ n, w' = w.drewN n := by
  have h := mAdd 1152921505151057923 a b (by omega) (by omega) ha hb w
  rw [litP] at h
  rw [Obol.addP_eq]
  exact h
theorem PSub (a b : Int) (ha : 0 ≤ a) (hb : 0 ≤ b) (w : World) :
    Calls Try.prog 67 #[.int .u64 1152921505151057923, .int .u64 a, .int .u64 b] w fun e w' => e = .returned (.int .u64 ((Obol.subP a.toNat b.toNat : Nat) : Int)) ∧ ∃ n, w' = w.drewN n := by
  have h := mSub 1152921505151057923 a b (by omega) (by omega) ha hb w
  rw [litP] at h
  rw [Obol.subP_eq]
  exact h
theorem PMul (a b : Int) (ha : 0 ≤ a) (hb : 0 ≤ b) (w : World) :
    Calls Try.prog 90 #[.int .u64 1152921505151057923, .int .u64 a, .int .u64 b] w fun e w' => e = .returned (.int .u64 ((Obol.mulP a.toNat b.toNat : Nat) : Int)) ∧ ∃ n, w' = w.drewN n := by
  have h := mMul 1152921505151057923 a b (by omega) (by omega) ha hb w
  rw [litP] at h
  rw [Obol.mulP_eq]
  exact h
theorem cMul (a b : Int) (ha : 0 ≤ a) (hb : 0 ≤ b) (w : World) :
    Calls Try.prog 72 #[.int .u64 a, .int .u64 b] w fun e w' => e = .returned (.int .u64 ((Obol.mulP a.toNat b.toNat : Nat) : Int)) ∧ ∃ n, w' = w.drewN n := by
  go_enter Try.func72, Try.ntmps72
  go_wp2_with (go_at_call 90; refine (PMul _ _ ha hb _).mono ?_; rintro e w' ⟨rfl, n, rfl⟩)
  go_ret
  exact ⟨rfl, _, rfl⟩
theorem cSub (a b : Int) (ha : 0 ≤ a) (hb : 0 ≤ b) (w : World) :
    Calls Try.prog 92 #[.int .u64 a, .int .u64 b] w fun e w' => e = .returned (.int .u64 ((Obol.subP a.toNat b.toNat : Nat) : Int)) ∧ ∃ n, w' = w.drewN n := by
  go_enter Try.func92, Try.ntmps92
  go_wp2_with (go_at_call 67; refine (PSub _ _ ha hb _).mono ?_; rintro e w' ⟨rfl, n, rfl⟩)
  go_ret
  exact ⟨rfl, _, rfl⟩

abbrev ptV (i : Bool) (X Y : Int) : Value := .agg #[.bool i, .int .u64 X, .int .u64 Y]
/-- Is it a point? -/
noncomputable def isPt (i : Bool) (X Y : Int) : Bool := if i = true then X == 0 && Y == 0 else Obol.isC X.toNat Y.toNat

theorem isC_far1 {x y : Nat} (h : 1152921505151057923 ≤ x) : Obol.isC x y = false := by
  unfold Obol.isC
  rw [decide_eq_false (show ¬ x < Obol.P by rw [Obol.P_def]; omega)]
  rfl
theorem isC_far2 {x y : Nat} (h : 1152921505151057923 ≤ y) : Obol.isC x y = false := by
  unfold Obol.isC
  rw [decide_eq_false (show ¬ y < Obol.P by rw [Obol.P_def]; omega), Bool.and_false, Bool.false_and]
theorem isC_near {x y : Nat} (h1 : x < 1152921505151057923) (h2 : y < 1152921505151057923) :
    Obol.isC x y = (((Obol.mulP y y : Nat) : Int) == ((Obol.addP (Obol.mulP (Obol.mulP x x) x) x : Nat) : Int)) := by
  unfold Obol.isC
  rw [decide_eq_true (show x < Obol.P by rw [Obol.P_def]; omega), decide_eq_true (show y < Obol.P by rw [Obol.P_def]; omega), Bool.true_and, Bool.true_and, Bool.eq_iff_iff, decide_eq_true_eq, beq_iff_eq, Int.ofNat_inj]

theorem cIs (i : Bool) (X Y : Int) (hX : 0 ≤ X) (hY : 0 ≤ Y) (w : World) :
    Calls Try.prog 53 #[ptV i X Y] w fun e w' => e = .returned (.bool (isPt i X Y)) ∧ Below w.heap.size w w' := by
  cases i
  · have hi : isPt false X Y = Obol.isC X.toNat Y.toNat := rfl
    rw [hi]
    clear hi
    by_cases h1 : (1152921505151057923 : Int) ≤ X
    · have hr := Lib.hid (isC_far1 (x := X.toNat) (y := Y.toNat) (by omega))
      have hd : decide (X < 1152921505151057923) = false := decide_eq_false (by omega)
      go_enter Try.func53, Try.ntmps53
      go_wp2_with fail
      go_quiet (fail)
      go_wp2_with fail
      go_ret
      exact ⟨by rw [hr.out]; rfl, by repeat (first | exact Below.refl _ _ | assumption | apply bDrewN | apply bDrew | apply bAlloc | refine bSet ?_ (by omega) | refine bThen ?_ (by assumption) (by simp <;> omega))⟩
    · by_cases h2 : (1152921505151057923 : Int) ≤ Y
      · have hr := Lib.hid (isC_far2 (x := X.toNat) (y := Y.toNat) (by omega))
        have hd : decide (X < 1152921505151057923) = true := decide_eq_true (by omega)
        have hd2 : decide (Y < 1152921505151057923) = false := decide_eq_false (by omega)
        go_enter Try.func53, Try.ntmps53
        go_wp2_with fail
        go_quiet (fail)
        go_wp2_with fail
        go_ret
        exact ⟨by rw [hr.out]; rfl, by repeat (first | exact Below.refl _ _ | assumption | apply bDrewN | apply bDrew | apply bAlloc | refine bSet ?_ (by omega) | refine bThen ?_ (by assumption) (by simp <;> omega))⟩
      · have hr := Lib.hid (isC_near (x := X.toNat) (y := Y.toNat) (by omega) (by omega))
        have hd : decide (X < 1152921505151057923) = true := decide_eq_true (by omega)
        have hd2 : decide (Y < 1152921505151057923) = true := decide_eq_true (by omega)
        go_enter Try.func53, Try.ntmps53
        go_wp2_with fail
        go_quiet ((first | (go_at_call 72; first | (refine Calls.quiet_of (cMul _ _ ?_ ?_ _) <;> omega) | (refine quiet_add (cMul _ _ ?_ ?_ _) <;> omega)) | (go_at_call 68; first | (refine Calls.quiet_of (PAdd _ _ ?_ ?_ _) <;> omega) | (refine quiet_add (PAdd _ _ ?_ ?_ _) <;> omega))))
        go_wp2_with fail
        go_ret
        exact ⟨by rw [hr.out]; rfl, by repeat (first | exact Below.refl _ _ | assumption | apply bDrewN | apply bDrew | apply bAlloc | refine bSet ?_ (by omega) | refine bThen ?_ (by assumption) (by simp <;> omega))⟩
  · have hr := Lib.hid (show isPt true X Y = (X == 0 && Y == 0) from rfl)
    by_cases h1 : X = 0
    · by_cases h2 : Y = 0
      · subst h1 h2
        go_enter Try.func53, Try.ntmps53
        go_wp2_with fail
        go_ret
        exact ⟨by rw [hr.out]; rfl, by repeat (first | exact Below.refl _ _ | assumption | apply bDrewN | apply bDrew | apply bAlloc | refine bSet ?_ (by omega) | refine bThen ?_ (by assumption) (by simp <;> omega))⟩
      · subst h1
        have h3 : (Y == 0) = false := beq_eq_false_iff_ne.2 h2
        replace h2 := Lib.hid h2
        go_enter Try.func53, Try.ntmps53
        go_wp2_with fail
        go_ret
        exact ⟨by rw [hr.out, h3]; rfl, by repeat (first | exact Below.refl _ _ | assumption | apply bDrewN | apply bDrew | apply bAlloc | refine bSet ?_ (by omega) | refine bThen ?_ (by assumption) (by simp <;> omega))⟩
    · have h3 : (X == 0) = false := beq_eq_false_iff_ne.2 h1
      replace h1 := Lib.hid h1
      go_enter Try.func53, Try.ntmps53
      go_wp2_with fail
      go_ret
      exact ⟨by rw [hr.out, h3]; rfl, by repeat (first | exact Below.refl _ _ | assumption | apply bDrewN | apply bDrew | apply bAlloc | refine bSet ?_ (by omega) | refine bThen ?_ (by assumption) (by simp <;> omega))⟩

theorem cInf (w : World) :
    Calls Try.prog 77 #[] w fun e w' => e = .returned (ptV true 0 0) ∧ Below w.heap.size w w' := by
  go_enter Try.func77, Try.ntmps77
  go_wp2_with fail
  refine bodyPost_ret (v := ptV true 0 0) (by simp [results, Try.results77, go_sem]) rfl ⟨rfl, ?_⟩
  repeat (first | exact Below.refl _ _ | assumption | apply bDrewN | apply bDrew | apply bAlloc | refine bSet ?_ (by omega) | refine bThen ?_ (by assumption) (by simp <;> omega))

theorem cSure (i : Bool) (X Y : Int) (hX : 0 ≤ X) (hY : 0 ≤ Y) (hp : isPt i X Y = true) (w : World) :
    Calls Try.prog 73 #[ptV i X Y] w fun e w' => e = .returned (ptV i X Y) ∧ Below w.heap.size w w' := by
  have hI := Lib.hid hp
  clear hp
  go_enter Try.func73, Try.ntmps73
  go_wp2_with (go_at_call 53; refine (cIs _ _ _ hX hY _).mono ?_; rintro e w1 ⟨rfl, hb⟩; rw [hI.out]; obtain ⟨hc, hf⟩ := bcell hb; have hz := hb.size; (try simp at hz))
  refine bodyPost_ret (v := ptV i X Y) (by simp [results, Try.results73, go_sem, hc]) rfl ⟨rfl, ?_⟩
  repeat (first | exact Below.refl _ _ | assumption | apply bDrewN | apply bDrew | apply bAlloc | refine bSet ?_ (by omega) | refine bThen ?_ (by assumption) (by simp <;> omega))

end Go.Proofs.Ytkfimfjjmdjbdaa
/- Four times S times any point is 0: by counting points. The first point's order is S. -/
namespace Obol

theorem Root.prm {N g : Nat} (h : Root N g) : Prm N := by
  have hb := h.big
  refine ⟨by omega, fun d hd => ?_⟩
  obtain ⟨c, hc⟩ := hd
  refine Classical.byContradiction fun hn => ?_
  have hn := not_or.1 hn
  have hd0 : 0 < d := by
    rcases Nat.eq_zero_or_pos d with e | e
    · rw [e, Nat.zero_mul] at hc; omega
    · exact e
  have hc0 : 0 < c := by
    rcases Nat.eq_zero_or_pos c with e | e
    · rw [e, Nat.mul_zero] at hc; omega
    · exact e
  have hdl : d < N := by
    have : d ≤ N := by rw [hc]; exact Nat.le_mul_of_pos_right _ hc0
    omega
  have hcl : c < N := by
    have h1 : c ≤ N := by rw [hc]; exact Nat.le_mul_of_pos_left _ hd0
    have h2 : c ≠ N := fun e => by
      rw [e] at hc
      have : d * N = 1 * N := by rw [Nat.one_mul]; exact hc.symm
      exact hn.1 (Nat.eq_of_mul_eq_mul_right (by omega) this)
    omega
  refine h.nonzero (a := d) (b := c) (by rw [Nat.mod_eq_of_lt hdl]; omega) (by rw [Nat.mod_eq_of_lt hcl]; omega) ?_
  rw [← hc, Nat.mod_self]

theorem smul_gcd (p : Pt) : ∀ (a b : Nat), Pnt.smul a p = Pnt.zero → Pnt.smul b p = Pnt.zero → Pnt.smul (Nat.gcd a b) p = Pnt.zero := by
  intro a
  induction a using Nat.strongRecOn with
  | _ a ih =>
    intro b ha hb
    by_cases h0 : a = 0
    · subst h0; rw [Nat.gcd_zero_left]; exact hb
    · rw [Nat.gcd_rec]
      refine ih (b % a) (Nat.mod_lt _ (by omega)) a ?_ ha
      have h1 : Pnt.smul (a * (b / a) + b % a) p = Pnt.zero := by rw [Nat.div_add_mod]; exact hb
      rw [Pnt.smul_add, Nat.mul_comm, Pnt.smul_mul, ha, Pnt.smul_zero, Pnt.zero_add] at h1
      exact h1

/-- No multiple below n is 0, where n over no prime of it is. -/
theorem smul_order (p : Pt) (n : Nat) (hn : 0 < n) (l : List Nat) (hl : ∀ q, q ∈ l → Prm q) (hf : l.foldr (· * ·) 1 = n) (h1 : Pnt.smul n p = Pnt.zero)
    (hq : ∀ q, q ∈ l → Pnt.smul (n / q) p ≠ Pnt.zero) (i : Nat) (h0 : 0 < i) (hi : i < n) : Pnt.smul i p ≠ Pnt.zero := by
  intro he
  have hd := smul_gcd p i n he h1
  have hdi := Nat.gcd_dvd_left i n
  obtain ⟨m, hm⟩ := Nat.gcd_dvd_right i n
  have hle := Nat.le_of_dvd h0 hdi
  have hm1 : 1 < m := by
    refine Nat.lt_of_not_le fun hle1 => ?_
    have : m = 0 ∨ m = 1 := by omega
    rcases this with e | e
    · rw [e, Nat.mul_zero] at hm; omega
    · rw [e, Nat.mul_one] at hm; omega
  obtain ⟨q, hql, c, hc⟩ := prm_in l hl m hm1 (by rw [hf]; exact ⟨Nat.gcd i n, by rw [Nat.mul_comm]; exact hm⟩)
  have hq1 := (hl q hql).1
  refine hq q hql ?_
  have : n / q = c * Nat.gcd i n := by
    refine Nat.div_eq_of_eq_mul_right (by omega) ?_
    rw [← Nat.mul_assoc, ← hc, Nat.mul_comm]
    exact hm
  rw [this, Pnt.smul_mul, hd, Pnt.smul_zero]

/-- A point of order 4 S. -/
def C : Pt := ⟨fr 122714579359187509, fr 218550362766627754, (on_iff _ _).2 (by rw [isN_eq]; decide +kernel)⟩
theorem C_n : C.n = (122714579359187509, 218550362766627754) := by decide +kernel

theorem smul_dec {p : Pt} {k : Nat} {v : Nat × Nat} (b : Nat) (hk : k < 2 ^ b) (h : timesQ p.n k b zeroN = v) : (Pnt.smul k p).n = v := by
  rw [← timesQ_n p k b hk]; exact h

theorem C_4S : Pnt.smul (4 * S) C = Pnt.zero :=
  Pnt.n_inj ((smul_dec 60 (by decide +kernel) (by rw [C_n]; exact of_decide_eq_true (by decide +kernel))).trans zero_n.symm)
theorem C_2S : (Pnt.smul (2 * S) C).n = (0, R - 1) := smul_dec 60 (by decide +kernel) (by rw [C_n]; exact of_decide_eq_true (by decide +kernel))
theorem C_S : (Pnt.smul S C).n = (263209301981812971, 0) := smul_dec 60 (by decide +kernel) (by rw [C_n]; exact of_decide_eq_true (by decide +kernel))
theorem y_of_n {q : Pt} {a : Nat} (h : q.n = (a, 0)) : q.y = 0 := val_eq_zero.2 (congrArg Prod.snd h)
theorem C_S_y : (Pnt.smul S C).y = 0 := y_of_n C_S
theorem C_4 : (Pnt.smul 4 C).n = (102079033001587460, 266919760672381183) := smul_dec 60 (by decide +kernel) (by rw [C_n]; exact of_decide_eq_true (by decide +kernel))

theorem C_order (i : Nat) (h0 : 0 < i) (hi : i < 4 * S) : Pnt.smul i C ≠ Pnt.zero := by
  refine smul_order C (4 * S) (by decide +kernel) [2, 2, S] ?_ (by decide +kernel) C_4S ?_ i h0 hi
  · intro q hq
    have : q = 2 ∨ q = S := by simpa using hq
    rcases this with e | e
    · rw [e]; exact prm_of 0 2 (by decide) (by decide) (by decide)
    · rw [e]; exact rootS.prm
  · intro q hq he
    have : q = 2 ∨ q = S := by simpa using hq
    rcases this with e | e
    · rw [e, show 4 * S / 2 = 2 * S by decide +kernel] at he
      have h1 := congrArg Pnt.n he
      rw [C_2S, zero_n] at h1
      exact absurd h1 (by decide +kernel)
    · rw [e, show 4 * S / S = 4 by decide +kernel] at he
      have h1 := congrArg Pnt.n he
      rw [C_4, zero_n] at h1
      exact absurd h1 (by decide +kernel)

/-! halves -/
theorem half_zero (p : Pt) (h : p.add p = Pnt.zero) : p = Pnt.zero ∨ p = Pnt.smul (2 * S) C := by
  rcases p.half h with e | ⟨e, hy⟩
  · exact .inl e
  · right
    refine Pnt.n_inj ?_
    rw [C_2S]
    unfold Pnt.n
    rw [e, hy, val_zero, val_neg, val_one, Nat.mod_eq_of_lt (by decide +kernel)]

theorem no_eighth (p q : Pt) (hq : q.y = 0) : p.add p ≠ q := by
  intro h
  have hv := congrArg Fin.val (p.eighth q hq h)
  rw [val_mul, val_add K.d, d_val, val_one] at hv
  have := rootR.euler (by decide +kernel) (439 + 1) _ (by decide +kernel) hv
  rw [← powm_eq R 64 (439 + 1) ((R - 1) / 2) (by decide +kernel)] at this
  exact absurd this (by decide +kernel)

/-! what tells a point: its Y, and in which half its X is -/
def code (p : Pt) : Nat := p.y.val + if 2 * p.x.val < R then 0 else R
theorem code_lt (p : Pt) : code p < 2 * R := by
  unfold code
  have := p.y.isLt
  split <;> omega

theorem code_inj {p q : Pt} (h : code p = code q) : p = q := by
  unfold code at h
  have a1 := p.y.isLt
  have a2 := q.y.isLt
  have a3 := p.x.isLt
  have a4 := q.x.isLt
  have hy : p.y.val = q.y.val := by split at h <;> split at h <;> omega
  have hy' : p.y = q.y := Fin.ext hy
  refine Pnt.ext ?_ hy'
  rcases K.x_of_y p.on (hy' ▸ q.on) with e | e
  · exact e
  · have hv := congrArg Fin.val e
    rw [val_neg] at hv
    by_cases h0 : q.x.val = 0
    · have : q.x = 0 := val_eq_zero.2 h0
      rw [e, this, K.neg_zero]
    · exfalso
      rw [Nat.mod_eq_of_lt (by omega)] at hv
      have hodd : R % 2 = 1 := by decide +kernel
      split at h <;> split at h <;> omega

theorem smul_C_turn (j t : Nat) : Pnt.smul (j + 4 * S * t) C = Pnt.smul j C := by
  rw [Pnt.smul_add, Nat.mul_comm (4 * S), Pnt.smul_mul, C_4S, Pnt.smul_zero, Pnt.add_zero]

theorem Pnt.smul_nil (p : Pt) : Pnt.smul 0 p = Pnt.zero := rfl
theorem m_turn (m : Nat) : m + m * (4 * S - 1) = 4 * S * m := by
  have sS : 0 < S := by decide +kernel
  have e2 : 4 * S * m = (4 * S - 1) * m + m := by
    rw [← Nat.succ_mul]
    rfl
  rw [e2, Nat.mul_comm m]
  omega

theorem killed (p : Pt) : Pnt.smul (4 * S) p = Pnt.zero := by
  refine Classical.byContradiction fun hp => ?_
  have sS : 0 < S := by decide +kernel
  have hA : ∀ j, p ≠ Pnt.smul j C := fun j e => hp (by
    rw [e, ← Pnt.smul_mul, Nat.mul_comm, Pnt.smul_mul, C_4S, Pnt.smul_zero])
  -- from p + m C = a C follows p in the multiples of C
  have hA' : ∀ m a, p.add (Pnt.smul m C) ≠ Pnt.smul a C := fun m a e => hA (a + m * (4 * S - 1)) (by
    rw [Pnt.smul_add, ← e, Pnt.add_assoc, ← Pnt.smul_add]
    have : m + m * (4 * S - 1) = 0 + 4 * S * m := by rw [Nat.zero_add, m_turn]
    rw [this, smul_C_turn, Pnt.smul_nil, Pnt.add_zero])
  have dbl : ∀ m, (p.add (Pnt.smul m C)).add (p.add (Pnt.smul m C)) = (p.add p).add (Pnt.smul (m + m) C) := fun m => by
    rw [Pnt.add_swap, Pnt.smul_add]
  have hB : ∀ j, p.add p ≠ Pnt.smul j C := by
    intro j e
    by_cases hj : j % 2 = 0
    · have hm := dbl (j / 2 * (4 * S - 1))
      rw [e, ← Pnt.smul_add] at hm
      have : j + (j / 2 * (4 * S - 1) + j / 2 * (4 * S - 1)) = 0 + 4 * S * j := by
        have e1 : j / 2 * (4 * S - 1) + j / 2 * (4 * S - 1) = j * (4 * S - 1) := by
          rw [← Nat.add_mul]
          congr 1
          omega
        rw [e1, Nat.zero_add, m_turn]
      rw [this, smul_C_turn] at hm
      rcases half_zero _ hm with h | h
      · exact hA' _ 0 h
      · exact hA' _ _ h
    · have hS : S % 2 = 1 := by decide +kernel
      have e0 : (4 * S - 1) * j % 2 = 1 := by rw [Nat.mul_mod]; have : (4 * S - 1) % 2 = 1 := by omega
                                              rw [this, show j % 2 = 1 by omega]
      have hm := dbl ((S + (4 * S - 1) * j) / 2)
      rw [e, ← Pnt.smul_add] at hm
      have : j + ((S + (4 * S - 1) * j) / 2 + (S + (4 * S - 1) * j) / 2) = S + 4 * S * j := by
        have e1 : (S + (4 * S - 1) * j) / 2 + (S + (4 * S - 1) * j) / 2 = S + (4 * S - 1) * j := by omega
        rw [e1]
        have e2 := m_turn j
        rw [Nat.mul_comm j] at e2
        omega
      rw [this, smul_C_turn] at hm
      exact no_eighth _ _ C_S_y hm
  -- 12 S points
  have hsm : ∀ k j, 0 < k → k < 3 → Pnt.smul k p ≠ Pnt.smul j C := by
    intro k j h0 h3 e
    have : k = 1 ∨ k = 2 := by omega
    rcases this with h | h
    · subst h; rw [Pnt.smul_one] at e; exact hA j e
    · subst h
      have : Pnt.smul 2 p = p.add p := by
        show (Pnt.smul 1 p).add p = _
        rw [Pnt.smul_one]
      rw [this] at e
      exact hB j e
  have hinj : ∀ k k' i i', k ≤ k' → k' < 3 → i < 4 * S → i' < 4 * S → (Pnt.smul k p).add (Pnt.smul i C) = (Pnt.smul k' p).add (Pnt.smul i' C) → k = k' ∧ i = i' := by
    intro k k' i i' hk hk' hi hi' e
    have ek : k' = k + (k' - k) := by omega
    rw [ek, Pnt.smul_add, Pnt.add_assoc] at e
    have e := Pnt.add_cancel e
    by_cases hz : k' - k = 0
    · refine ⟨by omega, ?_⟩
      rw [hz] at e
      have e : Pnt.smul i C = Pnt.zero.add (Pnt.smul i' C) := e
      rw [Pnt.zero_add] at e
      have hno : ∀ a b, a < b → b < 4 * S → Pnt.smul a C ≠ Pnt.smul b C := by
        intro a b hab hb e
        have hb' : b = a + (b - a) := by omega
        rw [hb', Pnt.smul_add, ← Pnt.add_zero (Pnt.smul a C), Pnt.add_assoc, Pnt.zero_add] at e
        exact C_order (b - a) (by omega) (by omega) (Pnt.add_cancel e).symm
      rcases Nat.lt_trichotomy i i' with h | h | h
      · exact absurd e (hno i i' h hi')
      · exact h
      · exact absurd e.symm (hno i' i h hi)
    · exfalso
      refine hsm (k' - k) (i + i' * (4 * S - 1)) (by omega) (by omega) ?_
      rw [Pnt.smul_add, e, Pnt.add_assoc, ← Pnt.smul_add]
      have : i' + i' * (4 * S - 1) = 0 + 4 * S * i' := by rw [Nat.zero_add, m_turn]
      rw [this, smul_C_turn, Pnt.smul_nil, Pnt.add_zero]
  have h12 := pigeon (2 * R) (12 * S) (fun n => code ((Pnt.smul (n / (4 * S)) p).add (Pnt.smul (n % (4 * S)) C))) (fun _ _ => code_lt _) (by
    intro a b ha hb e
    have e := code_inj e
    have la : a % (4 * S) < 4 * S := Nat.mod_lt _ (by omega)
    have lb : b % (4 * S) < 4 * S := Nat.mod_lt _ (by omega)
    have da := Nat.div_add_mod a (4 * S)
    have db := Nat.div_add_mod b (4 * S)
    have qa : a / (4 * S) < 3 := by rw [Nat.div_lt_iff_lt_mul (by omega)]; omega
    have qb : b / (4 * S) < 3 := by rw [Nat.div_lt_iff_lt_mul (by omega)]; omega
    have both : a / (4 * S) = b / (4 * S) ∧ a % (4 * S) = b % (4 * S) := by
      rcases Nat.le_total (a / (4 * S)) (b / (4 * S)) with h | h
      · exact hinj _ _ _ _ h qb la lb e
      · have := hinj _ _ _ _ h qa lb la e.symm
        exact ⟨this.1.symm, this.2.symm⟩
    rw [← da, ← db, both.1, both.2])
  have : ¬ (12 * S ≤ 2 * R) := by decide +kernel
  exact this h12

/-- The first point, and its order. -/
def G : Pt := ⟨fr 223588670687113535, fr 82055451961885530, (on_iff _ _).2 (by rw [isN_eq]; decide +kernel)⟩
theorem G_n : G.n = (223588670687113535, 82055451961885530) := by decide +kernel
theorem G_S : Pnt.smul S G = Pnt.zero :=
  Pnt.n_inj ((smul_dec 60 (by decide +kernel) (by rw [G_n]; exact of_decide_eq_true (by decide +kernel))).trans zero_n.symm)
theorem G_ne : G ≠ Pnt.zero := fun e => by
  have := congrArg Pnt.n e
  rw [G_n, zero_n] at this
  exact absurd this (by decide +kernel)
theorem order_S {p : Pt} (h : Pnt.smul S p = Pnt.zero) (hp : p ≠ Pnt.zero) (i : Nat) (h0 : 0 < i) (hi : i < S) : Pnt.smul i p ≠ Pnt.zero :=
  smul_order p S (by decide +kernel) [S] (by intro q hq; rw [List.mem_singleton.1 hq]; exact rootS.prm) (by decide +kernel) h
    (by intro q hq; rw [List.mem_singleton.1 hq, Nat.div_self (by decide +kernel), Pnt.smul_one]; exact hp) i h0 hi

end Obol
