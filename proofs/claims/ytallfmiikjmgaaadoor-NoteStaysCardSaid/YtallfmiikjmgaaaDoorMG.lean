import Derived.Test.YtallfmiikjmgaaaDoorMB
import Derived.Test.YtallfmiikjmgaaaDoorZWcopy
set_option linter.unusedVariables false
set_option linter.unusedSimpArgs false
/- Walks: packages cube, obolref10: the hash of two. -/
namespace Obol
noncomputable def c7 : Nat → Nat := (shut fun (i : Nat) => 7 ^ (i + 1) % R).1
theorem c7_eq (i : Nat) : c7 i = 7 ^ (i + 1) % R := congrFun (shut fun (i : Nat) => 7 ^ (i + 1) % R).2 i
/-- A number turned by a key: so many rounds. -/
noncomputable def tS (k x : Nat) : Nat → Nat
  | 0 => x
  | j + 1 => mulR (addR (tS k x j) (addR k (c7 j))) (mulR (addR (tS k x j) (addR k (c7 j))) (addR (tS k x j) (addR k (c7 j))))
noncomputable def turnN (k x : Nat) : Nat := addR (tS k x 3) k
noncomputable def twoN (a b : Nat) : Nat := addR (turnN a b) (addR a b)
/-- The hash of a list: so many numbers. -/
noncomputable def manyS (l : List Nat) : Nat → Nat
  | 0 => l.length % R
  | j + 1 => twoN (manyS l j) (l.getD j 0)
noncomputable def manyN (l : List Nat) : Nat := manyS l l.length
theorem cube_pow (s : Nat) : powM R s 3 = mulR s (mulR s s) := by
  rw [mulR_eq]
  unfold powM mulQ
  rw [Nat.mul_mod_mod, show s ^ 3 = s * (s * s) by rw [Nat.pow_succ, Nat.pow_succ, Nat.pow_one, Nat.mul_comm]]
theorem c7_zero : mulR 1 7 = c7 0 := by rw [mulR_eq, c7_eq]; rfl
theorem c7_succ (i : Nat) : mulR (c7 i) 7 = c7 (i + 1) := by
  rw [mulR_eq, c7_eq, c7_eq]
  unfold mulQ
  rw [Nat.mod_mul_mod, Nat.pow_succ 7 (i + 1)]
theorem addR_lt (a b : Nat) : addR a b < R := by rw [addR_eq]; exact Nat.mod_lt _ (by decide)
theorem twoN_lt (a b : Nat) : twoN a b < R := addR_lt _ _
end Obol
namespace Go.Proofs.YtallfmiikjmgaaaDoor
open Go.RowKit

theorem r_lit : (288230376287764481 : Int).toNat = Obol.R := by decide +kernel
set_option maxRecDepth 4000 in
theorem cConst (i : Int) (h0 : 0 ≤ i) (h1 : i ≤ 1000) (w : World) :
    Calls Tryd.prog 80 #[.int .i64 i] w fun e w' => e = .returned (.int .u64 ((Obol.c7 i.toNat : Nat) : Int)) ∧ ∃ n, w' = w.drewN n := by
  have hi : IntKind.u64.wrap i = i := by rw [IntKind.wrap_u64]; omega
  have hi1 : IntKind.u64.wrap (i + 1) = i + 1 := by rw [IntKind.wrap_u64]; omega
  have hP := mPow 288230376287764481 7 (i + 1) (by omega) (by omega) (by omega) (by omega) (by omega) w
  have e : Obol.powM (288230376287764481 : Int).toNat (7 : Int).toNat (i + 1).toNat = Obol.c7 i.toNat := by
    rw [r_lit, Obol.c7_eq, show (i + 1).toNat = i.toNat + 1 by omega]; rfl
  rw [e] at hP
  replace hP := Lib.hid hP
  clear e
  go_enter Tryd.func80, Tryd.ntmps80
  go_wp2_with fail
  refine hP.out.mono ?_
  rintro e w' ⟨rfl, n, rfl⟩
  go_wp2_with fail
  go_ret
  exact ⟨rfl, n, rfl⟩
set_option maxRecDepth 4000 in
set_option maxHeartbeats 1000000 in
theorem cTurn (k x : Int) (hk : 0 ≤ k) (hx : 0 ≤ x) (w : World) :
    Calls Tryd.prog 53 #[.int .u64 k, .int .u64 x] w fun e w' => e = .returned (.int .u64 ((Obol.turnN k.toNat x.toNat : Nat) : Int)) ∧ ∃ n, w' = w.drewN n := by
  have hx0 : Hid (x = ((Obol.tS k.toNat x.toNat 0 : Nat) : Int)) := Lib.hid (by show x = ((x.toNat : Nat) : Int); omega)
  go_enter Tryd.func53, Tryd.ntmps53
  go_wp2_with fail
  go_loopw [1, 6] (fun q1 q2 wr => ∃ (j : Nat) (y : Int), q1 = .int .u64 y ∧ q2 = .int .i64 (j : Int) ∧ j ≤ 3 ∧ Hid (y = ((Obol.tS k.toNat x.toNat j : Nat) : Int)) ∧ ∃ n, wr = w.drewN n) (fun _ q2 _ => (3 - intOf q2).toNat)
  case atStart => exact ⟨0, x, rfl, rfl, by omega, hx0, 0, rfl⟩
  case round =>
    clear hx0
    obtain ⟨j, y, rfl, rfl, hj, hy, n, rfl⟩ := hrel
    obtain ⟨i, hi⟩ : ∃ i : Int, (j : Int) = i := ⟨_, rfl⟩
    rw [hi]
    have i0 : 0 ≤ i := by omega
    have y0 : 0 ≤ y := by have := hy.out; omega
    have hyn : y.toNat = Obol.tS k.toNat x.toNat j := by have := hy.out; omega
    replace hyn := Lib.hid hyn
    by_cases hj3 : j < 3
    · have i1 : i < 3 := by omega
      have hij : Hid (i.toNat = j) := Lib.hid (by omega)
      go_wp2_with fail
      refine (cConst i i0 (by omega) _).mono ?_
      rintro e w1 ⟨rfl, n1, rfl⟩
      obtain ⟨c, hc⟩ : ∃ c : Int, ((Obol.c7 i.toNat : Nat) : Int) = c := ⟨_, rfl⟩
      rw [hc]
      have c0 : 0 ≤ c := by omega
      have hcn := Lib.hid (show c.toNat = Obol.c7 j by rw [← hij.out]; omega)
      clear hc
      go_wp2_with fail
      refine (RAdd k c hk c0 _).mono ?_
      rintro e w2 ⟨rfl, n2, rfl⟩
      obtain ⟨d, hd⟩ : ∃ d : Int, ((Obol.addR k.toNat c.toNat : Nat) : Int) = d := ⟨_, rfl⟩
      rw [hd]
      have d0 : 0 ≤ d := by omega
      have hdn := Lib.hid (show d.toNat = Obol.addR k.toNat (Obol.c7 j) by rw [← hcn.out]; omega)
      clear hd
      go_wp2_with fail
      refine (RAdd y d y0 d0 _).mono ?_
      rintro e w3 ⟨rfl, n3, rfl⟩
      obtain ⟨s, hs⟩ : ∃ z : Int, ((Obol.addR y.toNat d.toNat : Nat) : Int) = z := ⟨_, rfl⟩
      rw [hs]
      have s0 : 0 ≤ s := by omega
      have hsn := Lib.hid (show s.toNat = Obol.addR (Obol.tS k.toNat x.toNat j) (Obol.addR k.toNat (Obol.c7 j)) by rw [← hdn.out, ← hyn.out]; omega)
      clear hs
      have hP := fun W => mPow 288230376287764481 s 3 (by omega) (by omega) s0 (by omega) (by omega) W
      rw [r_lit, show (3 : Int).toNat = 3 from rfl, Obol.cube_pow] at hP
      replace hP := Lib.hid hP
      go_wp2_with fail
      refine (hP.out _).mono ?_
      rintro e w4 ⟨rfl, n4, rfl⟩
      go_wp2_with fail
      go_roundw
      case rel => exact ⟨j + 1, _, rfl, by simp; omega, by omega, Lib.hid (by rw [hsn.out]; rfl), _, rfl⟩
      case measure => simp [intOf]; omega
    · obtain rfl : j = 3 := by omega
      obtain rfl : i = 3 := by omega
      clear hi
      go_wp2_with fail
      refine (RAdd y k y0 hk _).mono ?_
      rintro e w2 ⟨rfl, n2, rfl⟩
      go_wp2_with fail
      go_ret
      exact ⟨by rw [hyn.out]; rfl, _, rfl⟩
set_option maxRecDepth 4000 in
theorem cTwo (a b : Int) (ha : 0 ≤ a) (hb : 0 ≤ b) (w : World) :
    Calls Tryd.prog 32 #[.int .u64 a, .int .u64 b] w fun e w' => e = .returned (.int .u64 ((Obol.twoN a.toNat b.toNat : Nat) : Int)) ∧ ∃ n, w' = w.drewN n := by
  go_enter Tryd.func32, Tryd.ntmps32
  go_wp2_with fail
  refine (cTurn a b ha hb _).mono ?_
  rintro e w1 ⟨rfl, n1, rfl⟩
  obtain ⟨c, hc⟩ : ∃ c : Int, ((Obol.turnN a.toNat b.toNat : Nat) : Int) = c := ⟨_, rfl⟩
  rw [hc]
  have c0 : 0 ≤ c := by omega
  have hcn := Lib.hid (show c.toNat = Obol.turnN a.toNat b.toNat by omega)
  clear hc
  go_wp2_with fail
  refine (RAdd a b ha hb _).mono ?_
  rintro e w2 ⟨rfl, n2, rfl⟩
  obtain ⟨d, hd⟩ : ∃ c : Int, ((Obol.addR a.toNat b.toNat : Nat) : Int) = c := ⟨_, rfl⟩
  rw [hd]
  have d0 : 0 ≤ d := by omega
  have hdn := Lib.hid (show d.toNat = Obol.addR a.toNat b.toNat by omega)
  clear hd
  go_wp2_with fail
  refine (RAdd c d c0 d0 _).mono ?_
  rintro e w3 ⟨rfl, n3, rfl⟩
  go_wp2_with fail
  go_ret
  exact ⟨by rw [hcn.out, hdn.out]; rfl, _, rfl⟩
set_option maxRecDepth 4000 in
set_option maxHeartbeats 1000000 in
theorem r10Turn (k x : Int) (hk : 0 ≤ k) (hx : 0 ≤ x) (w : World) :
    Calls Tryd.prog 37 #[.int .u64 k, .int .u64 x] w fun e w' => e = .returned (.int .u64 ((Obol.turnN k.toNat x.toNat : Nat) : Int)) ∧ ∃ n, w' = w.drewN n := by
  have hx0 : Hid (x = ((Obol.tS k.toNat x.toNat 0 : Nat) : Int)) := Lib.hid (by show x = ((x.toNat : Nat) : Int); omega)
  have h1 : Hid (Obol.mulR (1 : Int).toNat 7 = Obol.c7 0) := Lib.hid Obol.c7_zero
  go_enter Tryd.func37, Tryd.ntmps37
  go_wp2_with fail
  go_loopw [1, 5, 6] (fun q1 q0 q2 wr => ∃ (j : Nat) (y c : Int), q1 = .int .u64 y ∧ q0 = .int .u64 c ∧ q2 = .int .i64 (j : Int) ∧ j ≤ 3 ∧ 0 ≤ c ∧ Hid (Obol.mulR c.toNat 7 = Obol.c7 j) ∧ Hid (y = ((Obol.tS k.toNat x.toNat j : Nat) : Int)) ∧ ∃ n, wr = w.drewN n) (fun _ _ q2 _ => (3 - intOf q2).toNat)
  case atStart => exact ⟨0, x, 1, rfl, rfl, rfl, by omega, by omega, h1, hx0, 0, rfl⟩
  case round =>
    clear hx0 h1
    obtain ⟨j, y, b, rfl, rfl, rfl, hj, b0, hb, hy, n, rfl⟩ := hrel
    obtain ⟨i, hi⟩ : ∃ i : Int, (j : Int) = i := ⟨_, rfl⟩
    rw [hi]
    have i0 : 0 ≤ i := by omega
    have y0 : 0 ≤ y := by have := hy.out; omega
    have hyn := Lib.hid (show y.toNat = Obol.tS k.toNat x.toNat j by have := hy.out; omega)
    by_cases hj3 : j < 3
    · have i1 : i < 3 := by omega
      go_wp2_with fail
      refine (r7Mul b 7 b0 (by omega) _).mono ?_
      rintro e w1 ⟨rfl, n1, rfl⟩
      rw [show (7 : Int).toNat = 7 from rfl, hb.out]
      obtain ⟨c, hc⟩ : ∃ c : Int, ((Obol.c7 j : Nat) : Int) = c := ⟨_, rfl⟩
      rw [hc]
      have c0 : 0 ≤ c := by omega
      have hcn := Lib.hid (show c.toNat = Obol.c7 j by omega)
      clear hc
      go_wp2_with fail
      refine (r7Plus k c hk c0 _).mono ?_
      rintro e w2 ⟨rfl, n2, rfl⟩
      obtain ⟨d, hd⟩ : ∃ d : Int, ((Obol.addR k.toNat c.toNat : Nat) : Int) = d := ⟨_, rfl⟩
      rw [hd]
      have d0 : 0 ≤ d := by omega
      have hdn := Lib.hid (show d.toNat = Obol.addR k.toNat (Obol.c7 j) by rw [← hcn.out]; omega)
      clear hd
      go_wp2_with fail
      refine (r7Plus y d y0 d0 _).mono ?_
      rintro e w3 ⟨rfl, n3, rfl⟩
      obtain ⟨s, hs⟩ : ∃ z : Int, ((Obol.addR y.toNat d.toNat : Nat) : Int) = z := ⟨_, rfl⟩
      rw [hs]
      have s0 : 0 ≤ s := by omega
      have hsn := Lib.hid (show s.toNat = Obol.addR (Obol.tS k.toNat x.toNat j) (Obol.addR k.toNat (Obol.c7 j)) by rw [← hdn.out, ← hyn.out]; omega)
      clear hs
      go_wp2_with fail
      refine (r7Mul s s s0 s0 _).mono ?_
      rintro e w4 ⟨rfl, n4, rfl⟩
      obtain ⟨q, hq⟩ : ∃ d : Int, ((Obol.mulR s.toNat s.toNat : Nat) : Int) = d := ⟨_, rfl⟩
      rw [hq]
      have q0 : 0 ≤ q := by omega
      have hqn := Lib.hid (show q.toNat = Obol.mulR s.toNat s.toNat by omega)
      clear hq
      go_wp2_with fail
      refine (r7Mul s q s0 q0 _).mono ?_
      rintro e w5 ⟨rfl, n5, rfl⟩
      go_wp2_with fail
      go_roundw
      case rel => exact ⟨j + 1, _, c, rfl, rfl, by simp; omega, by omega, c0, Lib.hid (by rw [hcn.out, Obol.c7_succ]), Lib.hid (by rw [hqn.out, hsn.out]; rfl), _, rfl⟩
      case measure => simp [intOf]; omega
    · obtain rfl : j = 3 := by omega
      obtain rfl : i = 3 := by omega
      clear hi
      go_wp2_with fail
      refine (r7Plus y k y0 hk _).mono ?_
      rintro e w2 ⟨rfl, n2, rfl⟩
      go_wp2_with fail
      go_ret
      exact ⟨by rw [hyn.out]; rfl, _, rfl⟩
set_option maxRecDepth 4000 in
theorem r10Two (a b : Int) (ha : 0 ≤ a) (hb : 0 ≤ b) (w : World) :
    Calls Tryd.prog 15 #[.int .u64 a, .int .u64 b] w fun e w' => e = .returned (.int .u64 ((Obol.twoN a.toNat b.toNat : Nat) : Int)) ∧ ∃ n, w' = w.drewN n := by
  go_enter Tryd.func15, Tryd.ntmps15
  go_wp2_with fail
  refine (r10Turn a b ha hb _).mono ?_
  rintro e w1 ⟨rfl, n1, rfl⟩
  obtain ⟨c, hc⟩ : ∃ c : Int, ((Obol.turnN a.toNat b.toNat : Nat) : Int) = c := ⟨_, rfl⟩
  rw [hc]
  have c0 : 0 ≤ c := by omega
  have hcn := Lib.hid (show c.toNat = Obol.turnN a.toNat b.toNat by omega)
  clear hc
  go_wp2_with fail
  refine (r7Plus a b ha hb _).mono ?_
  rintro e w2 ⟨rfl, n2, rfl⟩
  obtain ⟨d, hd⟩ : ∃ c : Int, ((Obol.addR a.toNat b.toNat : Nat) : Int) = c := ⟨_, rfl⟩
  rw [hd]
  have d0 : 0 ≤ d := by omega
  have hdn := Lib.hid (show d.toNat = Obol.addR a.toNat b.toNat by omega)
  clear hd
  go_wp2_with fail
  refine (r7Plus c d c0 d0 _).mono ?_
  rintro e w3 ⟨rfl, n3, rfl⟩
  go_wp2_with fail
  go_ret
  exact ⟨by rw [hcn.out, hdn.out]; rfl, _, rfl⟩

end Go.Proofs.YtallfmiikjmgaaaDoor
/- Numbers in memory; slices of numbers of the call's own (for seats without package pedersen: else Wped, Wnums). -/
namespace Go.Proofs.YtallfmiikjmgaaaDoor
open Go.RowKit

/-! numbers in memory -/
def UL (w : World) (b o : Nat) (L : List Nat) : Prop := ∀ i, i < L.length → w.cell? ⟨b, o + i, none⟩ = some (.int .u64 ((L.getD i 0 : Nat) : Int))
theorem UL.below {B : Nat} {w w' : World} {b o : Nat} {L : List Nat} (h : UL w b o L) (hb : Below B w w') (hB : b < B) : UL w' b o L := fun i hi => (hb.cell (p := ⟨b, o + i, none⟩) hB).trans (h i hi)
theorem UL.lt {w : World} {b o : Nat} {L : List Nat} (h : UL w b o L) (h0 : 0 < L.length) : b < w.heap.size := World.block_lt_of_cell? w ⟨b, o + 0, none⟩ (h 0 h0)
structure U64 (n : Nat) (L : List Nat) : Prop where
  len : L.length = n
  lt : ∀ i, L.getD i 0 < 18446744073709551616
structure SlU (base : Nat) (w : World) (a : Option Addr) (c : Nat) (R : List Nat) : Prop where
  le : R.length ≤ c
  cap : c ≤ 9223372036854775807
  no : a = none → R.length = 0 ∧ c = 0
  bl : 0 < R.length → ∃ b o, a = some ⟨b, o, none⟩ ∧ b < base ∧ UL w b o R
theorem SlU.at {w W : World} {a : Option Addr} {c : Nat} {R : List Nat} (h : SlU w.heap.size w a c R) (hw : Below w.heap.size w W) : SlU W.heap.size W a c R :=
  ⟨h.le, h.cap, h.no, fun h0 => by
    obtain ⟨b, o, h1, h2, h3⟩ := h.bl h0
    exact ⟨b, o, h1, Nat.lt_of_lt_of_le h2 hw.size, h3.below hw h2⟩⟩

abbrev N64 (L : List Nat) : List Value := L.map fun (n : Nat) => Value.int .u64 (n : Int)
def OwnU (w : World) (base : Nat) (v : Value) (L : List Nat) : Prop := w.ownsRow base 22 1 v L.length (N64 L)
theorem OwnU.nil (w : World) (base : Nat) : OwnU w base (.slice none 0 0) [] := World.ownsRow_nil _ _ _ _
theorem OwnU.app {w : World} {base : Nat} {v : Value} {L M : List Nat} {news : List Value} (h : w.ownsRow base 22 1 v (L.length + M.length) (N64 L ++ news)) (e : news = N64 M) : OwnU w base v (L ++ M) := by
  subst e; unfold OwnU; rw [List.length_append, N64, List.map_append]; exact h
theorem OwnU.ul {w : World} {base : Nat} {L : List Nat} {g n cap : Nat} (h : OwnU w base (.slice (some ⟨g, 0, none⟩) n cap) L) : UL w g 0 L := fun i hi => by
  have h0 : n = L.length := by
    rcases h.2 with ⟨h1, _⟩ | ⟨g', cap', cur, h1, _⟩
    · cases h1
    · simp only [Value.slice.injEq] at h1
      exact h1.2.1
  subst h0
  rw [Nat.zero_add, World.ownsRow.cellAt h i (by omega)]
  simp only [List.getElem?_map, List.getElem?_eq_getElem hi, List.getD_eq_getElem?_getD]
  rfl
theorem OwnU.keep {w w' : World} {base B : Nat} {v : Value} {L : List Nat} (h : OwnU w base v L) (hb : Below B w w') (hB : w.heap.size ≤ B) : OwnU w' base v L := by
  refine ⟨h.1, ?_⟩
  rcases h.2 with h | ⟨g, cap, cur, h1, h2, h3, h4⟩
  · exact .inl h
  · exact .inr ⟨g, cap, cur, h1, h2, (hb.block g (Nat.lt_of_lt_of_le (Array.getElem?_eq_some_iff.1 h3).1 hB)).trans h3, h4⟩
theorem OwnU.row {w : World} {base : Nat} {v : Value} {L : List Nat} (h : OwnU w base v L) (hv : v ≠ .slice none 0 0) : ∃ g cap cur, v = .slice (some ⟨g, 0, none⟩) L.length cap ∧ base ≤ g ∧ Row w g cur 22 ∧ L.length ≤ cap ∧ cap ≤ maxLen ∧ cur.size = cap ∧ cur.toList.take L.length = N64 L := by
  rcases h.2 with ⟨rfl, _⟩ | ⟨g, cap, cur, h1, h2, h3, h4, h5, h6, h7⟩
  · exact absurd rfl hv
  · exact ⟨g, cap, cur, h1, h2, h3, h4, h5, by simpa using h6, by simpa using h7⟩
/-- As an argument. -/
theorem OwnU.sl {w : World} {base : Nat} {v : Value} {L : List Nat} (h : OwnU w base v L) : ∃ ao cap, v = .slice ao L.length cap ∧ SlU w.heap.size w ao cap L := by
  by_cases hv : v = .slice none 0 0
  · subst hv
    have h0 : L.length = 0 := by
      rcases h.2 with ⟨_, h0⟩ | ⟨g', cap', cur, h1, _⟩
      · omega
      · cases h1
    exact ⟨none, 0, by rw [h0], by omega, by omega, fun _ => ⟨h0, rfl⟩, fun h1 => by omega⟩
  · obtain ⟨g, cap, cur, rfl, h2, h3, h4, h5, h6, h7⟩ := h.row hv
    exact ⟨_, _, rfl, h4, (by unfold maxLen at h5; omega), (fun h => by cases h), fun _ => ⟨g, 0, rfl, h3.lt, h.ul⟩⟩
theorem info64n : (Tryd.prog.info? 22).map (fun i => (i.zero, i.size, i.bytes)) = some (some (.int .u64 0), 1, 8) := by kernel_rfl
theorem info_parts8 {i : Option TypeInfo} {z : Value} {s b : Nat} (h : i.map (fun i => (i.zero, i.size, i.bytes)) = some (some z, s, b)) : ∃ t, i = some t ∧ t.zero = some z ∧ t.size = s ∧ t.bytes = b := by
  cases i with
  | none => simp at h
  | some t => simp at h; exact ⟨t, rfl, h.1, h.2.1, h.2.2⟩
theorem append_ownU (W : World) (base : Nat) (v : Value) (L M : List Nat) (hown : OwnU W base v L) (ad : Addr) (m c : Nat) (hm : M.length = m) (hnews : ∀ j, j < M.length → W.cell? (ad.add j) = some (.int .u64 ((M.getD j 0 : Nat) : Int)))
    (hlen : L.length + M.length ≤ 100000000) (hbase : base ≤ W.heap.size) :
    ∃ v' W', (∀ ty, (Builtin.append_ #[64, 64] ty #[v, .slice (some ad) m c]).run Tryd.prog W = .ok v' W') ∧ OwnU W' base v' (L ++ M) ∧ Below base W W' ∧ (v' = .slice none 0 0 ↔ v = .slice none 0 0 ∧ m = 0) := by
  subst hm
  obtain ⟨ti, hti, htz, hts, htb⟩ := info_parts8 info64n
  obtain ⟨v', W', hr, ho, hg, hn⟩ := run_append_own W base 64 0 22 ti (.int .u64 0) 1 8 Tryd.underlying64 hti htz hts htb rfl (by decide) v L.length (N64 L) hown ad M.length c (N64 M) (by simp)
    (fun j u hu => by
      have hj : j < M.length := by have := (List.getElem?_eq_some_iff.1 hu).1; simpa using this
      rw [hnews j hj]
      rw [List.getElem?_map, List.getElem?_eq_getElem hj] at hu
      rw [List.getD_eq_getElem?_getD, List.getElem?_eq_getElem hj]
      simpa using hu) (fun u hu => by obtain ⟨x, _, rfl⟩ := List.mem_map.1 hu; rfl) (by unfold maxLen; omega) (by omega) hbase
  exact ⟨v', W', fun ty => hr, OwnU.app ho rfl, (Below.refl _ _).grown hg (by omega) (fun q hq => (World.ownsRow.lt hown q hq).1), hn⟩
theorem append_noneU (W : World) (base : Nat) (v : Value) (L : List Nat) (hown : OwnU W base v L) :
    ∀ ty, (Builtin.append_ #[64, 64] ty #[v, .slice none 0 0]).run Tryd.prog W = .ok v W := by
  obtain ⟨ti, hti, htz, hts, htb⟩ := info_parts8 info64n
  intro ty
  exact run_append_owned_none (P := Tryd.prog) W base 64 ty 22 ti 1 Tryd.underlying64 hti v L.length (N64 L) hown
theorem newsU (w : World) (x : Int) (x0 : 0 ≤ x) : ∀ j, j < [x.toNat].length → (w.alloc (.cells #[.int .u64 x] 22)).cell? ((⟨w.heap.size, 0, none⟩ : Addr).add j) = some (.int .u64 (([x.toNat].getD j 0 : Nat) : Int)) := fun j hj => by
  obtain rfl : j = 0 := by simp at hj; omega
  rw [addP]
  have := (show Row (w.alloc (.cells #[.int .u64 x] 22)) w.heap.size #[.int .u64 x] 22 from Row.new _ _ _).cell 0 rfl
  rw [this]
  simp
  omega
/-- 'append([]uint64{}, b...)' -/
theorem append_copyU (W : World) (ao : Option Addr) (len cap : Nat) (L : List Nat) (H : L.length = len) (hl : len ≤ 10000000) (hn : ao = none → len = 0 ∧ cap = 0) (hc : 0 < len → ∃ b o, ao = some ⟨b, o, none⟩ ∧ UL W b o L) :
    ∃ v' W', (∀ ty, (Builtin.append_ #[64, 64] ty #[.slice (some ⟨W.heap.size, 0, none⟩) 0 0, .slice ao len cap]).run Tryd.prog (W.alloc (.cells #[] 22)) = .ok v' W') ∧ v' ≠ .slice none 0 0 ∧
      OwnU W' W.heap.size v' L ∧ Below W.heap.size W W' := by
  have he : OwnU (W.alloc (.cells #[] 22)) W.heap.size (.slice (some ⟨W.heap.size, 0, none⟩) 0 0) [] := World.ownsRow_made W #[] 0 (Nat.le_refl _) (by decide) rfl
  cases ao with
  | none =>
    obtain ⟨rfl, rfl⟩ := hn rfl
    obtain rfl : L = [] := List.length_eq_zero_iff.1 H
    exact ⟨_, _, append_noneU _ _ _ _ he, (fun h => by cases h), he, bAlloc (Below.refl _ _) _⟩
  | some ad =>
    obtain ⟨v', W', h1, h2, h3, h4⟩ := append_ownU _ _ _ _ L he ad len cap H (fun j hj => by
      obtain ⟨b, o, h1, h2⟩ := hc (by omega)
      obtain rfl := Option.some.inj h1
      rw [addB]
      exact (h2.below (B := W.heap.size) (bAlloc (Below.refl _ _) _) (h2.lt (by omega))) j hj) (by simp; omega) (by simp)
    exact ⟨v', W', h1, (fun h => by cases (h4.1 h).1), h2, ((Below.refl W.heap.size W).alloc (Nat.le_refl _) _).trans h3⟩

end Go.Proofs.YtallfmiikjmgaaaDoor
/- Walks: packages cube, obolref10: the hash of a list. -/
namespace Obol
noncomputable def hdS (L : List Nat) (j : Nat) : List Nat := (List.range (j + 1)).map (manyS L)
theorem hdS_len (L : List Nat) (j : Nat) : (hdS L j).length = j + 1 := by simp [hdS]
theorem hdS_get (L : List Nat) (j i : Nat) (h : i ≤ j) : (hdS L j).getD i 0 = manyS L i := by
  unfold hdS
  rw [List.getD_eq_getElem?_getD, List.getElem?_map, List.getElem?_range (by omega)]
  rfl
theorem hdS_succ (L : List Nat) (j : Nat) : hdS L (j + 1) = hdS L j ++ [manyS L (j + 1)] := by
  unfold hdS
  rw [List.range_succ (n := j + 1), List.map_append]; rfl
end Obol
namespace Go.Proofs.YtallfmiikjmgaaaDoor
open Go.RowKit

theorem ownU_cell {w : World} {base g n cap : Nat} {L : List Nat} (h : OwnU w base (.slice (some ⟨g, 0, none⟩) n cap) L) (hn : L.length = n) (i : Nat) (hi : i < n) : w.cell? ⟨g, i, none⟩ = some (.int .u64 ((L.getD i 0 : Nat) : Int)) := by
  have := h.ul i (by omega)
  rwa [Nat.zero_add] at this
theorem ownU_below {w w' : World} {base : Nat} {v : Value} {L : List Nat} (h : OwnU w base v L) (hb : Below w.heap.size w w') : OwnU w' base v L := h.keep hb (Nat.le_refl _)
theorem ownU_shape {w : World} {base : Nat} {v : Value} {L : List Nat} (h : OwnU w base v L) (hv : v ≠ .slice none 0 0) : ∃ g cap, v = .slice (some ⟨g, 0, none⟩) L.length cap := by
  obtain ⟨g, cap, cur, h1, _⟩ := h.row hv
  exact ⟨g, cap, h1⟩

set_option maxRecDepth 8000 in
set_option maxHeartbeats 4000000 in
theorem cHeads (ao : Option Addr) (n cap : Nat) (L : List Nat) (H : L.length = n) (hn : n ≤ 1000) (w : World) (hS : SlU w.heap.size w ao cap L) :
    Calls Tryd.prog 78 #[.slice ao n cap] w fun e w' => ∃ g c, e = .returned (.slice (some ⟨g, 0, none⟩) (n + 1) c) ∧ OwnU w' w.heap.size (.slice (some ⟨g, 0, none⟩) (n + 1) c) (Obol.hdS L n) ∧ Below w.heap.size w w' := by
  have CS := Lib.hid hS
  have HL := Lib.hid H
  have hni : (n : Int) ≤ 1000 := by omega
  have hw1 : IntKind.u64.wrap (n : Int) = n := by rw [IntKind.wrap_u64]; omega
  have ht : ((n : Nat) : Int).tmod 288230376287764481 = (n : Int) := by rw [Int.tmod_eq_emod_of_nonneg (by omega)]; omega
  have e0 : Obol.hdS L 0 = [n] := by
    show [Obol.manyS L 0] = [n]
    rw [show Obol.manyS L 0 = L.length % Obol.R from rfl, H, Nat.mod_eq_of_lt (by unfold Obol.R; omega)]
  have O0 : Hid (OwnU (w.alloc (.cells #[.int .u64 (n : Int)] 22)) w.heap.size (.slice (some ⟨w.heap.size, 0, none⟩) 1 1) (Obol.hdS L 0)) := Lib.hid (by
    rw [e0]
    exact ⟨by simp, .inr ⟨w.heap.size, 1, #[.int .u64 (n : Int)], rfl, Nat.le_refl _, Row.new _ _ _, Nat.le_refl _, by decide, rfl, rfl⟩⟩)
  have B0 := Lib.hid (bAlloc (Below.refl _ w) (.cells #[.int .u64 (n : Int)] 22))
  replace e0 := Lib.hid e0
  clear hS H
  go_enter Tryd.func78, Tryd.ntmps78
  go_wp2_with fail
  generalize w.alloc (.cells #[.int .u64 (n : Int)] 22) = w1 at O0 B0 ⊢
  obtain ⟨g0, hg0⟩ : ∃ z, w.heap.size = z := ⟨_, rfl⟩
  have O1 : Hid (OwnU w1 w.heap.size (.slice (some ⟨g0, 0, none⟩) (0 + 1) 1) (Obol.hdS L 0)) := Lib.hid (by rw [← hg0]; exact O0.out)
  rw [hg0]
  replace hg0 := Lib.hid hg0
  clear O0
  go_loopw [3, 13] (fun q1 q2 wr => ∃ j g c : Nat, q1 = .slice (some ⟨g, 0, none⟩) (j + 1) c ∧ q2 = .int .i64 (j : Int) ∧ j ≤ n ∧ Hid (OwnU wr w.heap.size (.slice (some ⟨g, 0, none⟩) (j + 1) c) (Obol.hdS L j)) ∧ Hid (Below w.heap.size w wr)) (fun _ q2 _ => (n - intOf q2).toNat)
  case atStart => exact ⟨0, g0, 1, rfl, rfl, by omega, O1, B0⟩
  case round =>
    clear O1 B0
    rename World => wr
    obtain ⟨j, g, c, rfl, rfl, hj, O, B⟩ := hrel
    obtain ⟨i, hi⟩ : ∃ i : Int, (j : Int) = i := ⟨_, rfl⟩
    have i0 : 0 ≤ i := by omega
    by_cases hjn : j < n
    · rw [hi]
      have i1 : i < (n : Int) := by omega
      have i2 : i < (j : Int) + 1 := by omega
      have hij := Lib.hid (show i.toNat = j by omega)
      obtain ⟨bl, ol, rfl, hbl, hBL⟩ := CS.out.bl (by rw [HL.out]; omega)
      obtain ⟨x, hx⟩ : ∃ x : Int, ((L.getD i.toNat 0 : Nat) : Int) = x := ⟨_, rfl⟩
      obtain ⟨h, hh⟩ : ∃ x : Int, (((Obol.hdS L j).getD i.toNat 0 : Nat) : Int) = x := ⟨_, rfl⟩
      have x0 : 0 ≤ x := by omega
      have h0 : 0 ≤ h := by omega
      have cx : wr.cell? ⟨bl, ol + i.toNat, none⟩ = some (.int .u64 x) := by rw [← hx]; exact (hBL.below B.out hbl) i.toNat (by rw [HL.out]; omega)
      have ch := ownU_cell O.out (Obol.hdS_len L j) i.toNat (by omega)
      rw [hh] at ch
      have htw : Obol.twoN h.toNat x.toNat = Obol.manyS L (j + 1) := by
        rw [← hx, ← hh, Int.toNat_natCast, Int.toNat_natCast, hij.out, Obol.hdS_get L j j (Nat.le_refl _)]; rfl
      have cT := cTwo h x h0 x0 wr
      rw [htw] at cT
      replace cT := Lib.hid cT
      replace hx := Lib.hid hx
      replace hh := Lib.hid hh
      replace hi := Lib.hid hi
      replace hBL := Lib.hid hBL
      clear htw
      go_wp2_with fail
      refine cT.out.mono ?_
      rintro e w2 ⟨rfl, q, rfl⟩
      obtain ⟨y, hy⟩ : ∃ x : Int, ((Obol.manyS L (j + 1) : Nat) : Int) = x := ⟨_, rfl⟩
      rw [hy]
      have y0 : 0 ≤ y := by omega
      have O2 : OwnU (wr.drewN q) w.heap.size (.slice (some ⟨g, 0, none⟩) (j + 1) c) (Obol.hdS L j) := O.out
      have hsz : w.heap.size ≤ (wr.drewN q).heap.size := B.out.size
      obtain ⟨v', w5, hap, hO', hb', hnil⟩ := append_ownU ((wr.drewN q).alloc (.cells #[.int .u64 y] 22)) w.heap.size _ _ [y.toNat] (ownU_below O2 (bAlloc (Below.refl _ _) _)) ⟨(wr.drewN q).heap.size, 0, none⟩ 1 1 rfl (newsU _ y y0) (by rw [Obol.hdS_len]; simp; omega) (by rw [World.size_alloc]; omega)
      have er : Obol.hdS L j ++ [y.toNat] = Obol.hdS L (j + 1) := by rw [Obol.hdS_succ, ← hy]; rfl
      rw [er] at hO'
      obtain ⟨g3, c3, rfl⟩ := ownU_shape hO' (fun h => by cases (hnil.1 h).2)
      rw [Obol.hdS_len] at hap hO'
      have ON := Lib.hid hO'
      have BN := Lib.hid ((bAlloc (bDrewN B.out q) (.cells #[.int .u64 y] 22)).trans hb')
      replace hy := Lib.hid hy
      clear hO' hb' hnil er O2 hsz cT cx ch O B
      go_wp2_with (at_builtin; refine wpList_appended rfl _ _ _ _ rfl _ _ _ rfl rfl hap ?_)
      go_roundw
      case rel => exact ⟨j + 1, g3, c3, rfl, by have := hi.out; simp; omega, by omega, ON, BN⟩
      case measure => simp [intOf]; omega
    · obtain rfl : j = n := by omega
      replace hi := Lib.hid hi
      go_wp2_with fail
      go_ret
      exact ⟨g, c, rfl, O.out, B.out⟩
set_option maxRecDepth 4000 in
theorem cMany (ao : Option Addr) (n cap : Nat) (L : List Nat) (H : L.length = n) (hn : n ≤ 1000) (w : World) (hS : SlU w.heap.size w ao cap L) :
    Calls Tryd.prog 51 #[.slice ao n cap] w fun e w' => e = .returned (.int .u64 ((Obol.manyN L : Nat) : Int)) ∧ Below w.heap.size w w' := by
  have cH := Lib.hid (cHeads ao n cap L H hn w hS)
  clear hS
  have hM : Obol.manyN L = Obol.manyS L n := by unfold Obol.manyN; rw [H]
  replace hM := Lib.hid hM
  replace H := Lib.hid H
  go_enter Tryd.func51, Tryd.ntmps51
  go_wp2_with fail
  refine cH.out.mono ?_
  rintro e w1 ⟨g, c, rfl, hO, hb⟩
  have cc := ownU_cell hO (Obol.hdS_len L n) n (by omega)
  rw [Obol.hdS_get L n n (Nat.le_refl _), ← hM.out] at cc
  have hlt : (n : Int) < (n : Int) + 1 := by omega
  have B := Lib.hid hb
  clear hO hb cH
  go_wp2_with fail
  go_ret
  exact ⟨rfl, B.out⟩
set_option maxRecDepth 4000 in
set_option maxHeartbeats 1000000 in
theorem r10Many (ao : Option Addr) (n cap : Nat) (L : List Nat) (H : L.length = n) (hn : n ≤ 1000) (w : World) (hS : SlU w.heap.size w ao cap L) :
    Calls Tryd.prog 30 #[.slice ao n cap] w fun e w' => e = .returned (.int .u64 ((Obol.manyN L : Nat) : Int)) ∧ Below w.heap.size w w' := by
  have CS := Lib.hid hS
  have HL := Lib.hid H
  have hw1 : IntKind.u64.wrap (n : Int) = n := by rw [IntKind.wrap_u64]; omega
  have ht : ((n : Nat) : Int).tmod 288230376287764481 = (n : Int) := by rw [Int.tmod_eq_emod_of_nonneg (by omega)]; omega
  have h0 : Hid ((n : Int) = ((Obol.manyS L 0 : Nat) : Int)) := Lib.hid (by
    rw [show Obol.manyS L 0 = L.length % Obol.R from rfl, H, Nat.mod_eq_of_lt (by unfold Obol.R; omega)])
  clear hS H
  go_enter Tryd.func30, Tryd.ntmps30
  go_wp2_with fail
  go_loopw [3, 4] (fun q1 q2 wr => ∃ (j : Nat) (y : Int), q1 = .int .u64 y ∧ q2 = .int .i64 (j : Int) ∧ j ≤ n ∧ Hid (y = ((Obol.manyS L j : Nat) : Int)) ∧ ∃ q, wr = w.drewN q) (fun _ q2 _ => (n - intOf q2).toNat)
  case atStart => exact ⟨0, (n : Int), rfl, rfl, by omega, h0, 0, rfl⟩
  case round =>
    clear h0
    obtain ⟨j, y, rfl, rfl, hj, hy, q, rfl⟩ := hrel
    obtain ⟨i, hi⟩ : ∃ i : Int, (j : Int) = i := ⟨_, rfl⟩
    have i0 : 0 ≤ i := by omega
    rw [hi]
    by_cases hjn : j < n
    · have i1 : i < (n : Int) := by omega
      have hij := Lib.hid (show i.toNat = j by omega)
      obtain ⟨bl, ol, rfl, hbl, hBL⟩ := CS.out.bl (by rw [HL.out]; omega)
      obtain ⟨x, hx⟩ : ∃ x : Int, ((L.getD i.toNat 0 : Nat) : Int) = x := ⟨_, rfl⟩
      have x0 : 0 ≤ x := by omega
      have y0 : 0 ≤ y := by have := hy.out; omega
      have cx : (w.drewN q).cell? ⟨bl, ol + i.toNat, none⟩ = some (.int .u64 x) := by rw [← hx]; exact hBL i.toNat (by rw [HL.out]; omega)
      have htw : Obol.twoN y.toNat x.toNat = Obol.manyS L (j + 1) := by
        rw [← hx, hy.out, Int.toNat_natCast, Int.toNat_natCast, hij.out]; rfl
      have cT := r10Two y x y0 x0 (w.drewN q)
      rw [htw] at cT
      replace cT := Lib.hid cT
      replace hx := Lib.hid hx
      replace hi := Lib.hid hi
      replace hBL := Lib.hid hBL
      clear htw
      go_wp2_with fail
      refine cT.out.mono ?_
      rintro e w2 ⟨rfl, q2, rfl⟩
      go_wp2_with fail
      go_roundw
      case rel => exact ⟨j + 1, _, rfl, by have := hi.out; simp; omega, by omega, Lib.hid rfl, _, rfl⟩
      case measure => simp [intOf]; omega
    · obtain rfl : j = n := by omega
      have i1 : ¬ i < (j : Int) := by omega
      replace hi := Lib.hid hi
      go_wp2_with fail
      go_ret
      exact ⟨by rw [hy.out]; unfold Obol.manyN; rw [HL.out]; rfl, bDrewN (Below.refl _ _) _⟩

end Go.Proofs.YtallfmiikjmgaaaDoor
