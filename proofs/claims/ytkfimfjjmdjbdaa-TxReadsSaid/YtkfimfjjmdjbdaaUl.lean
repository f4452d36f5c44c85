import Derived.Test.YtkfimfjjmdjbdaaUi
set_option linter.unusedVariables false
set_option linter.unusedSimpArgs false
set_option linter.unusedSectionVars false
/- Walks: package tx: the reader's steps. -/
namespace Obol
/-- A reader's state: whether something was amiss, and the bytes that are left. -/
abbrev Rs := Bool × List Nat
def tkB (k : Nat) (s : Rs) : Bool := s.1 || decide (s.2.length < k)
def tkM (k : Nat) (s : Rs) : List Nat := if tkB k s = true then List.replicate k 0 else s.2.take k
def tkS (k : Nat) (s : Rs) : Rs := if tkB k s = true then (true, s.2) else (false, s.2.drop k)
theorem gd_take (L : List Nat) (n i : Nat) : (L.take n).getD i 0 = if i < n then L.getD i 0 else 0 := by
  rw [List.getD_eq_getElem?_getD, List.getElem?_take, List.getD_eq_getElem?_getD]
  split <;> rfl
theorem gd_drop (L : List Nat) (n i : Nat) : (L.drop n).getD i 0 = L.getD (n + i) 0 := by
  rw [List.getD_eq_getElem?_getD, List.getElem?_drop, List.getD_eq_getElem?_getD]
theorem tkM_len (k : Nat) (s : Rs) : (tkM k s).length = k := by
  unfold tkM
  split
  · exact List.length_replicate
  · rename_i h
    unfold tkB at h
    simp only [Bool.or_eq_true, decide_eq_true_eq, not_or] at h
    rw [List.length_take]
    omega
theorem tkM_lt (k : Nat) {s : Rs} (h : ∀ i, s.2.getD i 0 < 256) (i : Nat) : (tkM k s).getD i 0 < 256 := by
  unfold tkM
  split
  · rw [List.getD_eq_getElem?_getD, List.getElem?_replicate]
    split <;> decide
  · rw [List.getD_eq_getElem?_getD, List.getElem?_take]
    split
    · have := h i
      rwa [List.getD_eq_getElem?_getD] at this
    · decide
theorem tkS_lt (k : Nat) {s : Rs} (h : ∀ i, s.2.getD i 0 < 256) (i : Nat) : (tkS k s).2.getD i 0 < 256 := by
  unfold tkS
  split
  · exact h i
  · show (s.2.drop k).getD i 0 < 256
    have := h (k + i)
    rw [List.getD_eq_getElem?_getD] at this ⊢
    rwa [List.getElem?_drop]
theorem tkS_len (k : Nat) (s : Rs) : (tkS k s).2.length ≤ s.2.length := by
  unfold tkS
  split
  · exact Nat.le_refl _
  · show (s.2.drop k).length ≤ _; rw [List.length_drop]; omega
end Obol
namespace Go.Proofs.Ytkfimfjjmdjbdaa
open Go.RowKit
set_option linter.unusedVariables false

/-- All blocks but one stay. -/
structure Tch (br : Nat) (w w' : World) : Prop where
  os : w'.os = w.os
  tape : w'.tape = w.tape
  output : w'.output = w.output
  size : w.heap.size ≤ w'.heap.size
  block : ∀ k, k < w.heap.size → k ≠ br → w'.heap[k]? = w.heap[k]?
theorem Tch.refl (br : Nat) (w : World) : Tch br w w := ⟨rfl, rfl, rfl, Nat.le_refl _, fun _ _ _ => rfl⟩
theorem Tch.trans {br : Nat} {a b c : World} (h : Tch br a b) (g : Tch br b c) : Tch br a c :=
  ⟨g.os.trans h.os, g.tape.trans h.tape, g.output.trans h.output, Nat.le_trans h.size g.size, fun k hk hn => (g.block k (Nat.lt_of_lt_of_le hk h.size) hn).trans (h.block k hk hn)⟩
theorem Tch.below {br : Nat} {a b : World} (h : Below a.heap.size a b) : Tch br a b := ⟨h.os, h.tape, h.output, h.size, fun k hk _ => h.block k hk⟩
theorem Tch.set {br : Nat} {a : World} (o : Nat) (v : Value) : Tch br a (a.setCell ⟨br, o, none⟩ v) := by
  have hb : Below br a (a.setCell ⟨br, o, none⟩ v) := bSet (Below.refl _ _) (Nat.le_refl _)
  refine ⟨hb.os, hb.tape, hb.output, hb.size, fun k hk hn => ?_⟩
  exact heap_setCell_other a ⟨br, o, none⟩ k v hn
theorem Tch.low {br base : Nat} {w w' : World} (h : Tch br w w') (hb : base ≤ br) (hw : base ≤ w.heap.size) : Below base w w' := ⟨h.os, h.tape, h.output, h.size, fun k hk => h.block k (by omega) (by omega)⟩
theorem Tch.row {br : Nat} {w w' : World} {b : Nat} {cs : Array Value} {t : TypeId} (h : Tch br w w') (hr : Row w b cs t) (hn : b ≠ br) : Row w' b cs t := (h.block b hr.lt hn).trans hr
theorem HR.tch {br : Nat} {w w1 w2 : World} {rs : List (Nat × Array Value × TypeId)} (h : HR w w1 rs) (ht : Tch br w1 w2) (hn : ∀ r ∈ rs, r.1 ≠ br) (hb : w.heap.size ≤ br) : HR w w2 rs :=
  ⟨fun r hr => ht.row (h.1 r hr) (hn r hr), h.2.trans (ht.low hb h.2.size)⟩

/-- Where the reader stands. -/
def RdAt (base br : Nat) (s : Obol.Rs) (w : World) : Prop := ∃ a c, Row w br #[.slice a s.2.length c, .bool s.1] 73 ∧ SlI base w a c s.2 ∧ base ≤ br
theorem RdAt.next {base br : Nat} {s : Obol.Rs} {w w' : World} (h : RdAt base br s w) (hb : Below w.heap.size w w') : RdAt base br s w' := by
  obtain ⟨a, c, h1, h2, h3⟩ := h
  exact ⟨a, c, h1.below hb h1.lt, h2.below (hb.mono (Nat.le_trans h3 (Nat.le_of_lt h1.lt))), h3⟩
def GotB (br k : Nat) (M : List Nat) (w' : World) (v : Value) : Prop := ∃ b o c, v = .slice (some ⟨b, o, none⟩) k c ∧ BL w' b o M ∧ b < w'.heap.size ∧ k ≤ c ∧ c ≤ 9223372036854775807 ∧ b ≠ br
def TakeI (base br k : Nat) (s : Obol.Rs) (w : World) (e : Ending) (w' : World) : Prop := (∃ v, e = .returned v ∧ GotB br k (Obol.tkM k s) w' v) ∧ RdAt base br (Obol.tkS k s) w' ∧ Tch br w w'

theorem u8_zeros (k : Nat) : madeCells (Value.int .u8 0).cells k = u8s (List.replicate k 0) := Array.toList_inj.1 ((toList_madeCells_one (.int .u8 0) k).trans (by unfold u8s; simp))
theorem make_zeros (n : Nat) (hn : n ≤ 1000000) (W : World) : (Instr.makeSlice 26 (.int .i64 (n : Int)) (.int .i64 (n : Int))).run Try.prog W = .ok (.slice (some ⟨W.heap.size, 0, none⟩) n n) (W.alloc (.cells (u8s (List.replicate n 0)) 5)) := by
  obtain ⟨ti, hti, htz, hts, htb⟩ := info_parts info8
  have h := run_make (P := Try.prog) W 26 5 ti (.int .u8 0) Try.underlying26 hti htz .i64 .i64 (n : Int) (n : Int) (by omega) (by omega) (by rw [htb]; omega) (by omega)
  rw [hts] at h
  rw [h, ← u8_zeros]
  simp

set_option maxRecDepth 8000 in
set_option maxHeartbeats 2000000 in
theorem rTake (base br k : Nat) (s : Obol.Rs) (hk0 : 0 < k) (hk1 : k ≤ 100) (w : World) (hR : RdAt base br s w) :
    Calls Try.prog 41 #[.pointer (some ⟨br, 0, none⟩), .int .i64 (k : Int)] w (TakeI base br k s w) := by
  obtain ⟨a, c, hr, hs, hbr⟩ := hR
  have R := Lib.hid hr
  have S := Lib.hid hs
  have hlt := hr.lt
  have c0 := hr.cell 0 rfl
  have c1 := hr.cell 1 rfl
  have f0 := hr.free 0
  have f1 := hr.free 1
  obtain ⟨bad, L⟩ := s
  have hlen : L.length ≤ c := hs.le
  have hcap := hs.cap
  have hni : (L.length : Int) ≤ 9223372036854775807 := by omega
  have hkp : 0 ≤ (k : Int) := by omega
  cases hT : Obol.tkB k (bad, L)
  · -- bytes are there
    have hT2 := hT
    unfold Obol.tkB at hT2
    simp only [Bool.or_eq_false_iff, decide_eq_false_iff_not] at hT2
    obtain ⟨rfl, hn⟩ := hT2
    have hM : Hid (Obol.tkM k (false, L) = L.take k) := Lib.hid (by unfold Obol.tkM; rw [hT]; rfl)
    have hS : Hid (Obol.tkS k (false, L) = (false, L.drop k)) := Lib.hid (by unfold Obol.tkS; rw [hT]; rfl)
    have hd : decide (L.length < k) = false := decide_eq_false hn
    have hkl : k ≤ L.length := by omega
    obtain ⟨b, o, rfl, hb, hBL⟩ := hs.bl (show 0 < L.length by omega)
    have hsl := fun W => slice_rest (P := Try.prog) 26 5 Try.underlying26 info8 b o L.length c k hkl hlen W
    have hkc : (k : Int) ≤ (c : Int) := by omega
    have hkc2 : k ≤ c := by omega
    have BB := Lib.hid (And.intro hb hBL)
    clear hT hn hr hs hb hBL
    by_cases hck : c = k
    · rw [if_pos hck] at hsl
      have hck' := Lib.hid hck
      clear hck
      go_enter Try.func41, Try.ntmps41
      go_wp2_with fail
      go_ret
      have RN : Row (w.setCell ⟨br, 0, none⟩ (.slice (some ⟨b, o, none⟩) (L.length - k) (c - k))) br #[.slice (some ⟨b, o, none⟩) (L.length - k) (c - k), .bool false] 73 := R.out.set 0 _
      have hB2 : Below base w (w.setCell ⟨br, 0, none⟩ (.slice (some ⟨b, o, none⟩) (L.length - k) (c - k))) := bSet (Below.refl _ _) hbr
      refine ⟨⟨_, rfl, b, o, c, rfl, ?_, ?_, hkc2, hcap, ?_⟩, ?_, Tch.set _ _⟩
      · rw [hM.out]
        exact (show BL w b o (L.take k) from fun i hi => by
          rw [List.length_take] at hi
          rw [BB.out.2 i (by omega), Obol.gd_take, if_pos (by omega)]).below hB2 BB.out.1
      · exact Nat.lt_of_lt_of_le (Nat.lt_of_lt_of_le BB.out.1 hbr) (Nat.le_trans (Nat.le_of_lt hlt) hB2.size)
      · have := BB.out.1; omega
      · rw [hS.out]
        refine ⟨some ⟨b, o, none⟩, c - k, ?_, ?_, hbr⟩
        · show Row _ br #[.slice (some ⟨b, o, none⟩) (L.drop k).length (c - k), .bool false] _
          rw [List.length_drop]
          exact RN
        · have h0 : L.length - k = 0 := by have := hck'.out; omega
          exact ⟨by show (L.drop k).length ≤ _; rw [List.length_drop]; omega, by omega, (fun h => by cases h), fun h => by have h : 0 < (L.drop k).length := h; rw [List.length_drop] at h; omega⟩
    · rw [if_neg hck] at hsl
      go_enter Try.func41, Try.ntmps41
      go_wp2_with fail
      go_ret
      have RN : Row (w.setCell ⟨br, 0, none⟩ (.slice (some ⟨b, o + k, none⟩) (L.length - k) (c - k))) br #[.slice (some ⟨b, o + k, none⟩) (L.length - k) (c - k), .bool false] 73 := R.out.set 0 _
      have hB2 : Below base w (w.setCell ⟨br, 0, none⟩ (.slice (some ⟨b, o + k, none⟩) (L.length - k) (c - k))) := bSet (Below.refl _ _) hbr
      refine ⟨⟨_, rfl, b, o, c, rfl, ?_, ?_, hkc2, hcap, ?_⟩, ?_, Tch.set _ _⟩
      · rw [hM.out]
        exact (show BL w b o (L.take k) from fun i hi => by
          rw [List.length_take] at hi
          rw [BB.out.2 i (by omega), Obol.gd_take, if_pos (by omega)]).below hB2 BB.out.1
      · exact Nat.lt_of_lt_of_le (Nat.lt_of_lt_of_le BB.out.1 hbr) (Nat.le_trans (Nat.le_of_lt hlt) hB2.size)
      · have := BB.out.1; omega
      · rw [hS.out]
        refine ⟨some ⟨b, o + k, none⟩, c - k, ?_, ?_, hbr⟩
        · show Row _ br #[.slice (some ⟨b, o + k, none⟩) (L.drop k).length (c - k), .bool false] _
          rw [List.length_drop]
          exact RN
        · refine ⟨by show (L.drop k).length ≤ _; rw [List.length_drop]; omega, by omega, fun h => (by cases h), fun h => ⟨b, o + k, rfl, BB.out.1, ?_⟩⟩
          refine (show BL w b (o + k) (L.drop k) from fun i hi => ?_).below hB2 BB.out.1
          rw [List.length_drop] at hi
          rw [Nat.add_assoc, BB.out.2 (k + i) (by omega), Obol.gd_drop]
  · -- they are too few
    have hM : Hid (Obol.tkM k (bad, L) = List.replicate k 0) := Lib.hid (by unfold Obol.tkM; rw [hT]; rfl)
    have hS : Hid (Obol.tkS k (bad, L) = (true, L)) := Lib.hid (by unfold Obol.tkS; rw [hT]; rfl)
    have mk := make_zeros k (by omega)
    have key : Hid (∀ bd : Bool, Row (w.setCell ⟨br, 1, none⟩ (.bool true)) br #[.slice a L.length c, .bool true] 73) := Lib.hid (fun _ => R.out.set 1 _)
    have fin : Hid (TakeI base br k (bad, L) w (.returned (.slice (some ⟨w.heap.size, 0, none⟩) k k)) ((w.setCell ⟨br, 1, none⟩ (.bool true)).alloc (.cells (u8s (List.replicate k 0)) 5))) := Lib.hid (by
      have hz : (w.setCell ⟨br, 1, none⟩ (.bool true)).heap.size = w.heap.size := by simp
      have hB2 : Below base w ((w.setCell ⟨br, 1, none⟩ (.bool true)).alloc (.cells (u8s (List.replicate k 0)) 5)) := (bSet (Below.refl _ _) hbr).alloc (by rw [hz]; omega) _
      have hnew : Row ((w.setCell ⟨br, 1, none⟩ (.bool true)).alloc (.cells (u8s (List.replicate k 0)) 5)) w.heap.size (u8s (List.replicate k 0)) 5 := Row.newAt _ _ hz
      refine ⟨⟨_, rfl, w.heap.size, 0, k, rfl, ?_, hnew.lt, Nat.le_refl _, by omega, by omega⟩, ?_, ?_⟩
      · rw [hM.out]; exact hnew.bl
      · rw [hS.out]
        exact ⟨a, c, (key.out true).alloc _, S.out.below hB2, hbr⟩
      · exact (Tch.set 1 _).trans (Tch.below (bAlloc (Below.refl _ _) _)))
    have hz : (w.setCell ⟨br, 1, none⟩ (.bool true)).heap.size = w.heap.size := by simp
    cases bad
    · have hd : decide (L.length < k) = true := by
        unfold Obol.tkB at hT
        simpa using hT
      clear hT hr hs key
      go_enter Try.func41, Try.ntmps41
      go_wp2_with fail
      go_ret
      exact fin.out
    · clear hT hr hs key
      go_enter Try.func41, Try.ntmps41
      go_wp2_with fail
      go_ret
      exact fin.out

end Go.Proofs.Ytkfimfjjmdjbdaa
/- Walks: package tx: the reader's numbers and points. -/
namespace Obol
noncomputable def rdN (s : Rs) : Nat := num8 (tkM 8 s)
noncomputable def ptP (s : Rs) : Nat × Nat := match readN (rdN s) with | .some p => p | .none => (0, 0)
noncomputable def ptS (s : Rs) : Rs := match readN (rdN s) with | .some _ => tkS 8 s | .none => (true, (tkS 8 s).2)
theorem ptS_lt {s : Rs} (h : ∀ i, s.2.getD i 0 < 256) (i : Nat) : (ptS s).2.getD i 0 < 256 := by
  unfold ptS
  split
  · exact tkS_lt 8 h i
  · exact tkS_lt 8 h i
end Obol
namespace Go.Proofs.Ytkfimfjjmdjbdaa
open Go.RowKit
set_option linter.unusedVariables false

theorem tkM_b8 (k : Nat) {s : Obol.Rs} (h : ∀ i, s.2.getD i 0 < 256) : B8 k (Obol.tkM k s) := ⟨Obol.tkM_len k s, Obol.tkM_lt k h⟩
def NumI (base br : Nat) (s : Obol.Rs) (w : World) (e : Ending) (w' : World) : Prop := e = .returned (.int .u64 ((Obol.rdN s : Nat) : Int)) ∧ RdAt base br (Obol.tkS 8 s) w' ∧ Tch br w w'
set_option maxRecDepth 8000 in
set_option maxHeartbeats 1000000 in
theorem rNumber (base br : Nat) (s : Obol.Rs) (hb : ∀ i, s.2.getD i 0 < 256) (w : World) (hR : RdAt base br s w) :
    Calls Try.prog 38 #[.pointer (some ⟨br, 0, none⟩)] w (NumI base br s w) := by
  have cT := Lib.hid (rTake base br 8 s (by decide) (by decide) w hR)
  have H := Lib.hid (tkM_b8 8 hb)
  clear hR hb
  go_enter Try.func38, Try.ntmps38
  go_wp2_with fail
  refine cT.out.mono ?_
  rintro e w1 ⟨⟨v, rfl, b, o, c, rfl, hBL, hbl, hkc, hcm, hne⟩, hRd, hTc⟩
  have C := Lib.hid hBL
  have F := Lib.hid (And.intro hRd hTc)
  have hN : Obol.rdN s = Obol.num8 (Obol.tkM 8 s) := rfl
  obtain ⟨L, hL⟩ : ∃ L, Obol.tkM 8 s = L := ⟨_, rfl⟩
  rw [hL] at C H hN
  replace hN := Lib.hid hN
  replace hL := Lib.hid hL
  clear hBL hRd hTc
  go_wp2_with fail
  go_loopw [3, 9] (fun q1 q2 wr => ∃ N i : Int, q1 = .int .u64 N ∧ q2 = .int .i64 i ∧ Hid (ReadI L N i) ∧ wr = w1) (fun _ q2 _ => (8 - intOf q2).toNat)
  case atStart => exact ⟨0, 0, rfl, rfl, Lib.hid ⟨by omega, by omega, by omega, by decide, rfl⟩, rfl⟩
  case round =>
    obtain ⟨N, i, rfl, rfl, HI, rfl⟩ := hrel
    have i0 := HI.out.2.1
    have i1 := HI.out.2.2.1
    by_cases hi : i < 8
    · obtain ⟨n0, n1⟩ := HI.out.bound hi
      obtain ⟨v, hv, he, v0, v1⟩ := C.out.at H.out i0 hi
      have hor := or_byte n0 n1 v0 v1
      have HN := Lib.hid (HI.out.step H.out hi he v0 v1)
      have hdi : decide (i < 8) = true := decide_eq_true hi
      clear he
      go_wp2_with fail
      go_roundw
      case rel => exact ⟨_, _, rfl, rfl, HN, by first | rfl | trivial⟩
      case measure => simp [intOf]; omega
    · obtain rfl : i = 8 := by omega
      have hD := Lib.hid (HI.out.done H.out)
      clear HI
      go_wp2_with fail
      go_ret
      exact ⟨ret_u64 (by rw [hN.out]; exact hD.out), F.out.1, F.out.2⟩

def PtI (base br : Nat) (s : Obol.Rs) (w : World) (e : Ending) (w' : World) : Prop := e = .returned (.agg #[.int .u64 (((Obol.ptP s).1 : Nat) : Int), .int .u64 (((Obol.ptP s).2 : Nat) : Int)]) ∧ RdAt base br (Obol.ptS s) w' ∧ Tch br w w'
set_option maxRecDepth 8000 in
set_option maxHeartbeats 2000000 in
theorem rPoint (base br : Nat) (s : Obol.Rs) (hb : ∀ i, s.2.getD i 0 < 256) (w : World) (hR : RdAt base br s w) :
    Calls Try.prog 39 #[.pointer (some ⟨br, 0, none⟩)] w (PtI base br s w) := by
  have hlt : br < w.heap.size := by obtain ⟨a, c, h1, h2, h3⟩ := hR; exact h1.lt
  have hR1 := hR.next (bAlloc (Below.refl _ w) (.cells #[.int .u64 0, .int .u64 0] 24))
  have cT := Lib.hid (rTake base br 8 s (by decide) (by decide) _ hR1)
  have H := Lib.hid (tkM_b8 8 hb)
  have R2 := Row.new w #[.int .u64 0, .int .u64 0] 24
  have T0 : Tch br w (w.alloc (.cells #[.int .u64 0, .int .u64 0] 24)) := Tch.below (bAlloc (Below.refl _ _) _)
  have hne2 : w.heap.size ≠ br := by omega
  clear hR hb hR1
  go_enter Try.func39, Try.ntmps39
  go_wp2_with fail
  refine cT.out.mono ?_
  rintro e w1 ⟨⟨v, rfl, b, o, c, rfl, hBL, hbl, hkc, hcm, hne⟩, hRd, hTc⟩
  have cE := Lib.hid (eRead8 b o c (Obol.tkM 8 s) H.out w1 hBL)
  have R3 := hTc.row R2 hne2
  have T1 := T0.trans hTc
  clear hBL hbl hTc R2 T0 cT
  cases hr : Obol.readN (Obol.rdN s) with
  | some p =>
    have hP : Hid (Obol.ptP s = p) := Lib.hid (by unfold Obol.ptP; rw [hr])
    have hS : Hid (Obol.ptS s = Obol.tkS 8 s) := Lib.hid (by unfold Obol.ptS; rw [hr])
    have hV : readV (Obol.num8 (Obol.tkM 8 s)) = .tuple #[edV (p.1 : Nat) (p.2 : Nat), .nilIface] := by unfold readV; rw [show Obol.readN (Obol.num8 (Obol.tkM 8 s)) = Option.some p from hr]
    rw [hV] at cE
    obtain ⟨x, hx⟩ : ∃ x : Int, ((p.1 : Nat) : Int) = x := ⟨_, rfl⟩
    obtain ⟨y, hy⟩ : ∃ y : Int, ((p.2 : Nat) : Int) = y := ⟨_, rfl⟩
    rw [hx, hy] at cE
    replace hx := Lib.hid hx
    replace hy := Lib.hid hy
    clear hr hV
    go_wp2_with fail
    refine cE.out.mono ?_
    rintro e w2 ⟨rfl, hb2⟩
    go_upto_region 2 with fail
    have R4 := (R3.below hb2 R3.lt).alloc (.cells #[.int .u64 x, .int .u64 y] 24)
    have R4' := Row.new w2 #[.int .u64 x, .int .u64 y] 24
    have hRd3 := (hRd.next hb2).next (bAlloc (Below.refl _ w2) (.cells #[.int .u64 x, .int .u64 y] 24))
    have T3 := (T1.trans (Tch.below hb2)).trans (Tch.below (bAlloc (Below.refl _ w2) (.cells #[.int .u64 x, .int .u64 y] 24)))
    have hne3 : w2.heap.size ≠ br := by
      obtain ⟨ra, rc, g1, -, -⟩ := hRd
      have := (g1.below hb2 g1.lt).lt
      omega
    have hne4 : w.heap.size ≠ w2.heap.size := Nat.ne_of_lt (R3.below hb2 R3.lt).lt
    clear hb2 R3 hRd T1
    generalize w2.alloc (.cells #[.int .u64 x, .int .u64 y] 24) = w3 at R4 R4' hRd3 T3 ⊢
    generalize w2.heap.size = b3 at R4' hne3 hne4 ⊢
    go_upto_region 4 with fail
    have hRd4 : RdAt base br (Obol.ptS s) w3 := by rw [hS.out]; exact hRd3
    have R5 := R4
    have R5' := R4'
    have T4 := T3
    clear R4 R4' T3 hRd3
    generalize w3 = w4 at hRd4 R5 R5' T4 ⊢
    have k0 := R5'.cell 0 rfl
    have k1 := R5'.cell 1 rfl
    have j0 := R5.free 0
    have j1 := R5.free 1
    have j2 := R5.cell 0 rfl
    have j3 := R5.cell 1 rfl
    have F := Lib.hid (show RdAt base br (Obol.ptS s) ((w4.setCell ⟨w.heap.size, 0, none⟩ (.int .u64 x)).setCell ⟨w.heap.size, 1, none⟩ (.int .u64 y)) ∧ Tch br w ((w4.setCell ⟨w.heap.size, 0, none⟩ (.int .u64 x)).setCell ⟨w.heap.size, 1, none⟩ (.int .u64 y)) from by
      obtain ⟨a, c, g1, g2, g3⟩ := hRd4
      have hbase : base ≤ w.heap.size := by omega
      have hB : Below w.heap.size w4 ((w4.setCell ⟨w.heap.size, 0, none⟩ (.int .u64 x)).setCell ⟨w.heap.size, 1, none⟩ (.int .u64 y)) := bSet (bSet (Below.refl _ _) (Nat.le_refl _)) (Nat.le_refl _)
      refine ⟨⟨a, c, (g1.other hne2.symm).other hne2.symm, g2.below (hB.mono hbase), g3⟩, ?_⟩
      exact ⟨hB.os.trans T4.os, hB.tape.trans T4.tape, hB.output.trans T4.output, Nat.le_trans T4.size hB.size, fun k hk hn => (hB.block k hk).trans (T4.block k hk hn)⟩)
    have RS := R5.set2 (v0 := .int .u64 x) (v1 := .int .u64 y)
    have s0 := RS.cell 0 rfl
    have s1 := RS.cell 1 rfl
    clear RS R5 R5' T4 hRd4
    go_wp2_with fail
    refine bodyPost_ret (v := edV x y) (by simp [results, Try.results39, go_sem, s0, s1]) rfl ⟨by rw [hP.out, hx.out, hy.out], F.out.1, F.out.2⟩
  | none =>
    have hP : Hid (Obol.ptP s = (0, 0)) := Lib.hid (by unfold Obol.ptP; rw [hr])
    have hS : Hid (Obol.ptS s = (true, (Obol.tkS 8 s).2)) := Lib.hid (by unfold Obol.ptS; rw [hr])
    have hV : readV (Obol.num8 (Obol.tkM 8 s)) = .tuple #[edV 0 0, errV 3] := by unfold readV; rw [show Obol.readN (Obol.num8 (Obol.tkM 8 s)) = Option.none from hr]
    rw [hV] at cE
    clear hr hV
    go_wp2_with fail
    refine cE.out.mono ?_
    rintro e w2 ⟨rfl, hb2⟩
    go_upto_region 2 with fail
    have R4 := (R3.below hb2 R3.lt).alloc (.cells #[.int .u64 0, .int .u64 0] 24)
    have R4' := Row.new w2 #[.int .u64 0, .int .u64 0] 24
    have hRd3 := (hRd.next hb2).next (bAlloc (Below.refl _ w2) (.cells #[.int .u64 0, .int .u64 0] 24))
    have T3 := (T1.trans (Tch.below hb2)).trans (Tch.below (bAlloc (Below.refl _ w2) (.cells #[.int .u64 0, .int .u64 0] 24)))
    have hne3 : w2.heap.size ≠ br := by
      obtain ⟨ra, rc, g1, -, -⟩ := hRd
      have := (g1.below hb2 g1.lt).lt
      omega
    have hne4 : w.heap.size ≠ w2.heap.size := Nat.ne_of_lt (R3.below hb2 R3.lt).lt
    clear hb2 R3 hRd T1
    generalize w2.alloc (.cells #[.int .u64 0, .int .u64 0] 24) = w3 at R4 R4' hRd3 T3 ⊢
    generalize w2.heap.size = b3 at R4' hne3 hne4 ⊢
    obtain ⟨ra, rc, g1, g2, g3⟩ := hRd3
    have q1 := g1.cell 1 rfl
    have qf := g1.free 1
    go_upto_region 4 with fail
    have hRd4 : RdAt base br (Obol.ptS s) (w3.setCell ⟨br, 1, none⟩ (.bool true)) := by
      rw [hS.out]
      have hB : Below base w3 (w3.setCell ⟨br, 1, none⟩ (.bool true)) := bSet (Below.refl _ _) g3
      exact ⟨ra, rc, g1.set 1 _, g2.below hB, g3⟩
    have R5 := R4.other (v := .bool true) (c := br) (o := 1) hne2
    have R5' := R4'.other (v := .bool true) (c := br) (o := 1) hne3
    have T4 := T3.trans (Tch.set 1 (.bool true))
    clear g1 g2 q1 qf R4 R4' T3
    generalize w3.setCell ⟨br, 1, none⟩ (.bool true) = w4 at hRd4 R5 R5' T4 ⊢
    have k0 := R5'.cell 0 rfl
    have k1 := R5'.cell 1 rfl
    have j0 := R5.free 0
    have j1 := R5.free 1
    have j2 := R5.cell 0 rfl
    have j3 := R5.cell 1 rfl
    have F := Lib.hid (show RdAt base br (Obol.ptS s) ((w4.setCell ⟨w.heap.size, 0, none⟩ (.int .u64 0)).setCell ⟨w.heap.size, 1, none⟩ (.int .u64 0)) ∧ Tch br w ((w4.setCell ⟨w.heap.size, 0, none⟩ (.int .u64 0)).setCell ⟨w.heap.size, 1, none⟩ (.int .u64 0)) from by
      obtain ⟨a, c, g1, g2, g3⟩ := hRd4
      have hbase : base ≤ w.heap.size := by omega
      have hB : Below w.heap.size w4 ((w4.setCell ⟨w.heap.size, 0, none⟩ (.int .u64 0)).setCell ⟨w.heap.size, 1, none⟩ (.int .u64 0)) := bSet (bSet (Below.refl _ _) (Nat.le_refl _)) (Nat.le_refl _)
      refine ⟨⟨a, c, (g1.other hne2.symm).other hne2.symm, g2.below (hB.mono hbase), g3⟩, ?_⟩
      exact ⟨hB.os.trans T4.os, hB.tape.trans T4.tape, hB.output.trans T4.output, Nat.le_trans T4.size hB.size, fun k hk hn => (hB.block k hk).trans (T4.block k hk hn)⟩)
    have RS := R5.set2 (v0 := .int .u64 0) (v1 := .int .u64 0)
    have s0 := RS.cell 0 rfl
    have s1 := RS.cell 1 rfl
    clear RS R5 R5' T4 hRd4
    go_wp2_with fail
    refine bodyPost_ret (v := edV 0 0) (by simp [results, Try.results39, go_sem, s0, s1]) rfl ⟨by rw [hP.out]; rfl, F.out.1, F.out.2⟩

end Go.Proofs.Ytkfimfjjmdjbdaa
/- Walks: package curve: bytes to points. -/
namespace Obol
/-- The point of some bytes. -/
noncomputable def crd (M : List Nat) : Option (Bool × Nat × Nat) :=
  if M.length = 1 ∧ M.getD 0 0 = 0 then Option.some (true, 0, 0)
  else if M.length = 17 ∧ M.getD 0 0 = 1 then (if isC (num8 ((M.drop 1).take 8)) (num8 (M.drop 9)) = true then Option.some (false, num8 ((M.drop 1).take 8), num8 (M.drop 9)) else Option.none)
  else Option.none
end Obol
namespace Go.Proofs.Ytkfimfjjmdjbdaa
open Go.RowKit
set_option linter.unusedVariables false

noncomputable def crdV (M : List Nat) : Value := match Obol.crd M with
  | .some p => .tuple #[ptV p.1 (p.2.1 : Nat) (p.2.2 : Nat), .nilIface]
  | .none => .tuple #[ptV false 0 0, errV 3]
def CrI (A B : List Nat) (m n i : Int) : Prop := 0 ≤ i ∧ i ≤ 16 ∧ 0 ≤ m ∧ 0 ≤ n ∧ (i ≤ 8 → ReadI A m i ∧ n = 0) ∧ (8 ≤ i → m = ((Obol.num8 A : Nat) : Int) ∧ ReadI B n (i - 8))
section
variable (b o c : Nat) (M : List Nat) (w : World) (hc : M.length ≤ c) (hc2 : c ≤ 9223372036854775807) (hBL : BL w b o M)
include hc hc2 hBL
theorem cReadI (hn : M.length = 1) (h0 : M.getD 0 0 = 0) : Calls Try.prog 62 #[.slice (some ⟨b, o, none⟩) 1 c] w fun e w' => e = .returned (crdV M) ∧ Below w.heap.size w w' := by
  have hV : Hid (crdV M = .tuple #[ptV true 0 0, .nilIface]) := Lib.hid (by unfold crdV Obol.crd; rw [if_pos ⟨hn, h0⟩]; rfl)
  have h1 := hBL 0 (by omega)
  rw [Nat.add_zero] at h1
  rw [h0] at h1
  have hlt := hBL.lt (by omega)
  have R := Row.new w #[.bool false, .int .u64 0, .int .u64 0] 31
  clear hBL hn h0
  go_enter Try.func62, Try.ntmps62
  go_wp2_with fail
  refine (cInf _).mono ?_
  rintro e w1 ⟨rfl, hb⟩
  have R1 := R.below hb R.lt
  have k0 := R1.free 0
  have k1 := R1.free 1
  have k2 := R1.free 2
  have k3 := R1.cell 0 rfl
  have k4 := R1.cell 1 rfl
  have k5 := R1.cell 2 rfl
  have RS := R1.set3 (v0 := .bool true) (v1 := .int .u64 0) (v2 := .int .u64 0)
  have s0 := RS.cell 0 rfl
  have s1 := RS.cell 1 rfl
  have s2 := RS.cell 2 rfl
  have B := Lib.hid (bSet (bSet (bSet (bThen (bAlloc (Below.refl w.heap.size w) _) hb (by simp)) (b := w.heap.size) (o := 0) (u := .bool true) (by omega)) (b := w.heap.size) (o := 1) (u := .int .u64 0) (by omega)) (b := w.heap.size) (o := 2) (u := .int .u64 0) (by omega))
  clear R R1 RS hb
  go_wp2_with fail
  refine bodyPost_ret (v := .tuple #[ptV true 0 0, .nilIface]) (by simp [results, Try.results62, go_sem, s0, s1, s2]) rfl ⟨by rw [hV.out], B.out⟩
theorem cReadE1 (hn : M.length = 1) (h0 : M.getD 0 0 ≠ 0) : Calls Try.prog 62 #[.slice (some ⟨b, o, none⟩) 1 c] w fun e w' => e = .returned (crdV M) ∧ Below w.heap.size w w' := by
  have hV : Hid (crdV M = .tuple #[ptV false 0 0, errV 3]) := Lib.hid (by unfold crdV Obol.crd; rw [if_neg (fun h => h0 h.2), if_neg (fun h => by omega)])
  have h1 := hBL 0 (by omega)
  rw [Nat.add_zero] at h1
  obtain ⟨v, hv⟩ : ∃ v : Int, ((M.getD 0 0 : Nat) : Int) = v := ⟨_, rfl⟩
  rw [hv] at h1
  have hz : (v == 0) = false := beq_eq_false_iff_ne.2 (by omega)
  replace hv := Lib.hid hv
  have hlt := hBL.lt (by omega)
  clear hBL hn h0
  go_enter Try.func62, Try.ntmps62
  go_wp2_with fail
  refine bodyPost_ret (v := .tuple #[ptV false 0 0, errV 3]) (by simp [results, Try.results62, go_sem]) rfl ⟨by rw [hV.out], ?_⟩
  repeat (first | exact Below.refl _ _ | assumption | apply bDrewN | apply bDrew | apply bAlloc | refine bSet ?_ (by omega) | refine bThen ?_ (by assumption) (by simp <;> omega))
theorem cReadE17 (hn : M.length = 17) (h0 : M.getD 0 0 ≠ 1) : Calls Try.prog 62 #[.slice (some ⟨b, o, none⟩) 17 c] w fun e w' => e = .returned (crdV M) ∧ Below w.heap.size w w' := by
  have hV : Hid (crdV M = .tuple #[ptV false 0 0, errV 3]) := Lib.hid (by unfold crdV Obol.crd; rw [if_neg (fun h => by omega), if_neg (fun h => h0 h.2)])
  have h1 := hBL 0 (by omega)
  rw [Nat.add_zero] at h1
  obtain ⟨v, hv⟩ : ∃ v : Int, ((M.getD 0 0 : Nat) : Int) = v := ⟨_, rfl⟩
  rw [hv] at h1
  have hz : (v != 1) = true := bne_iff_ne.2 (by omega)
  replace hv := Lib.hid hv
  have hlt := hBL.lt (by omega)
  clear hBL hn h0
  go_enter Try.func62, Try.ntmps62
  go_wp2_with fail
  refine bodyPost_ret (v := .tuple #[ptV false 0 0, errV 3]) (by simp [results, Try.results62, go_sem]) rfl ⟨by rw [hV.out], ?_⟩
  repeat (first | exact Below.refl _ _ | assumption | apply bDrewN | apply bDrew | apply bAlloc | refine bSet ?_ (by omega) | refine bThen ?_ (by assumption) (by simp <;> omega))
set_option maxRecDepth 8000 in
set_option maxHeartbeats 4000000 in
theorem cRead17 (hb256 : ∀ i, M.getD i 0 < 256) (hn : M.length = 17) (h0 : M.getD 0 0 = 1) : Calls Try.prog 62 #[.slice (some ⟨b, o, none⟩) 17 c] w fun e w' => e = .returned (crdV M) ∧ Below w.heap.size w w' := by
  have hA8 : Hid (B8 8 ((M.drop 1).take 8)) := Lib.hid ⟨by rw [List.length_take, List.length_drop]; omega, fun i => by rw [Obol.gd_take]; split; rw [Obol.gd_drop]; exact hb256 _; decide⟩
  have hB8 : Hid (B8 8 (M.drop 9)) := Lib.hid ⟨by rw [List.length_drop]; omega, fun i => by rw [Obol.gd_drop]; exact hb256 _⟩
  have hV0 : crdV M = if Obol.isC (Obol.num8 ((M.drop 1).take 8)) (Obol.num8 (M.drop 9)) = true then .tuple #[ptV false ((Obol.num8 ((M.drop 1).take 8) : Nat) : Int) ((Obol.num8 (M.drop 9) : Nat) : Int), .nilIface] else .tuple #[ptV false 0 0, errV 3] := by
    unfold crdV Obol.crd
    rw [if_neg (fun h => by omega), if_pos ⟨hn, h0⟩]
    split <;> rename_i h
    · split at h
      · obtain rfl := Option.some.inj h
        rename_i h2
        rw [if_pos h2]
      · cases h
    · split at h
      · cases h
      · rename_i h2
        rw [if_neg h2]
  have hA : Hid (∀ i : Nat, i < 8 → w.cell? ⟨b, o + 1 + i, none⟩ = some (.int .u8 ((((M.drop 1).take 8).getD i 0 : Nat) : Int))) := Lib.hid (fun i hi => by rw [Nat.add_assoc, hBL (1 + i) (by omega), Obol.gd_take, if_pos hi, Obol.gd_drop])
  have hB : Hid (∀ i : Nat, i < 8 → w.cell? ⟨b, o + 1 + (8 + i), none⟩ = some (.int .u8 (((M.drop 9).getD i 0 : Nat) : Int))) := Lib.hid (fun i hi => by rw [Nat.add_assoc, hBL (1 + (8 + i)) (by omega), Obol.gd_drop, show 1 + (8 + i) = 9 + i by omega])
  have h1 := hBL 0 (by omega)
  rw [Nat.add_zero] at h1
  rw [h0] at h1
  have hlt := hBL.lt (by omega)
  obtain ⟨A, hAe⟩ : ∃ A, (M.drop 1).take 8 = A := ⟨_, rfl⟩
  obtain ⟨B, hBe⟩ : ∃ B, M.drop 9 = B := ⟨_, rfl⟩
  rw [hAe] at hA8 hV0 hA
  rw [hBe] at hB8 hV0 hB
  have hV := Lib.hid hV0
  have hsl := fun W => slice_rest (P := Try.prog) 26 5 Try.underlying26 info8 b o 17 c 1 (by omega) (by omega) W
  rw [if_neg (by omega)] at hsl
  have hc17 : (17 : Int) ≤ (c : Int) := by omega
  replace hAe := Lib.hid hAe
  replace hBe := Lib.hid hBe
  clear hBL hn h0 hb256 hV0
  go_enter Try.func62, Try.ntmps62
  go_upto_region 7 with fail
  have H0 := ((HR.refl w).new #[.bool false, .int .u64 0, .int .u64 0] 31).new #[.int .u64 0, .int .u64 0] 25
  simp only [World.size_alloc] at H0
  generalize (w.alloc (.cells #[.bool false, .int .u64 0, .int .u64 0] 31)).alloc (.cells #[.int .u64 0, .int .u64 0] 25) = w2 at H0 ⊢
  obtain ⟨b4, hb4⟩ : ∃ z, w.heap.size + 1 = z := ⟨_, rfl⟩
  rw [hb4] at H0 ⊢
  have hne : Hid (w.heap.size < b4) := Lib.hid (by omega)
  have H1 := Lib.hid H0
  replace hb4 := Lib.hid hb4
  clear H0
  go_loopw [32] (fun q wr => ∃ i m n : Int, q = .int .i64 i ∧ Hid (CrI A B m n i) ∧ Hid (HR w wr [(b4, #[.int .u64 m, .int .u64 n], 25), (w.heap.size, #[.bool false, .int .u64 0, .int .u64 0], 31)])) (fun q _ => (16 - intOf q).toNat)
  case atStart => exact ⟨0, 0, 0, rfl, Lib.hid ⟨by omega, by omega, by omega, by omega, fun _ => ⟨⟨by omega, by omega, by omega, by decide, rfl⟩, rfl⟩, fun h => absurd h (by omega)⟩, H1⟩
  case round =>
    clear H1
    obtain ⟨i, m, n, rfl, HI, HR1⟩ := hrel
    obtain ⟨i0, i1, m0, n0, hlo, hhi⟩ := HI.out
    have hl4 := HR1.out.lt (b := b4) (cs := #[.int .u64 m, .int .u64 n]) (t := 25) (by simp)
    have x0 := HR1.out.cell (b := b4) (cs := #[.int .u64 m, .int .u64 n]) (t := 25) (by simp) 0 rfl
    have x1 := HR1.out.cell (b := b4) (cs := #[.int .u64 m, .int .u64 n]) (t := 25) (by simp) 1 rfl
    have y0 := HR1.out.free (b := b4) (cs := #[.int .u64 m, .int .u64 n]) (t := 25) (by simp) 0
    have y1 := HR1.out.free (b := b4) (cs := #[.int .u64 m, .int .u64 n]) (t := 25) (by simp) 1
    by_cases hi16 : i < 16
    · have hdi : decide (i < 16) = true := decide_eq_true hi16
      by_cases hi8 : i < 8
      · obtain ⟨hRI, rfl⟩ := hlo (by omega)
        obtain ⟨nn0, nn1⟩ := hRI.bound hi8
        obtain ⟨v, hv⟩ : ∃ v : Int, ((A.getD i.toNat 0 : Nat) : Int) = v := ⟨_, rfl⟩
        have hcell := (HR1.out.2.cell (p := ⟨b, o + 1 + i.toNat, none⟩) hlt).trans (hA.out i.toNat (by omega))
        rw [hv] at hcell
        have v0 : 0 ≤ v := by omega
        have v1 : v ≤ 255 := by have := hA8.out.lt i.toNat; omega
        have hor := or_byte nn0 nn1 v0 v1
        have HN : Hid (CrI A B (256 * m + v) 0 (i + 1)) := Lib.hid ⟨by omega, by omega, by omega, by omega, fun _ => ⟨hRI.step hA8.out hi8 hv.symm v0 v1, rfl⟩, fun h => by
          obtain rfl : i = 7 := by omega
          exact ⟨(hRI.step hA8.out hi8 hv.symm v0 v1).done hA8.out, by omega, by omega, by omega, by decide, rfl⟩⟩
        have HS : Hid (HR w (wr.setCell ⟨b4, 0, none⟩ (.int .u64 (256 * m + v))) [(b4, #[.int .u64 (256 * m + v), .int .u64 0], 25), (w.heap.size, #[.bool false, .int .u64 0, .int .u64 0], 31)]) := Lib.hid (HR1.out.put (by have := hne.out; simp; omega) (by have := hne.out; omega) 0 _)
        have hq1 : i.tdiv 8 = 0 := by rw [Int.tdiv_eq_ediv_of_nonneg i0]; omega
        have hq2 : i / 8 = 0 := by omega
        replace hv := Lib.hid hv
        clear hRI hlo hhi
        go_wp2_with fail
        go_roundw
        case rel => exact ⟨i + 1, _, _, rfl, HN, HS⟩
        case measure => simp [intOf]; omega
      · obtain ⟨hm, hRI⟩ := hhi (by omega)
        have hi8' : i - 8 < 8 := by omega
        obtain ⟨nn0, nn1⟩ := hRI.bound hi8'
        obtain ⟨v, hv⟩ : ∃ v : Int, ((B.getD (i - 8).toNat 0 : Nat) : Int) = v := ⟨_, rfl⟩
        have hbB := hB.out (i - 8).toNat (by omega)
        rw [show 8 + (i - 8).toNat = i.toNat by omega] at hbB
        have hcell := (HR1.out.2.cell (p := ⟨b, o + 1 + i.toNat, none⟩) hlt).trans hbB
        clear hbB
        rw [hv] at hcell
        have v0 : 0 ≤ v := by omega
        have v1 : v ≤ 255 := by have := hB8.out.lt (i - 8).toNat; omega
        have hor := or_byte nn0 nn1 v0 v1
        have HN : Hid (CrI A B m (256 * n + v) (i + 1)) := Lib.hid ⟨by omega, by omega, by omega, by omega, fun h => absurd h (by omega), fun h => by
          refine ⟨hm, ?_⟩
          have := hRI.step hB8.out hi8' hv.symm v0 v1
          rwa [show i - 8 + 1 = i + 1 - 8 by omega] at this⟩
        have HS : Hid (HR w (wr.setCell ⟨b4, 1, none⟩ (.int .u64 (256 * n + v))) [(b4, #[.int .u64 m, .int .u64 (256 * n + v)], 25), (w.heap.size, #[.bool false, .int .u64 0, .int .u64 0], 31)]) := Lib.hid (HR1.out.put (by have := hne.out; simp; omega) (by have := hne.out; omega) 1 _)
        have hq1 : i.tdiv 8 = 1 := by rw [Int.tdiv_eq_ediv_of_nonneg i0]; omega
        have hq2 : i / 8 = 1 := by omega
        replace hv := Lib.hid hv
        replace hm := Lib.hid hm
        clear hRI hlo hhi hi8
        go_wp2_with fail
        go_roundw
        case rel => exact ⟨i + 1, _, _, rfl, HN, HS⟩
        case measure => simp [intOf]; omega
    · obtain rfl : i = 16 := by omega
      obtain ⟨hm, hRI⟩ := hhi (by omega)
      have hn2 := hRI.done hB8.out
      rw [← hm, ← hn2] at hV
      have hm3 : m.toNat = Obol.num8 A := by omega
      have hn3 : n.toNat = Obol.num8 B := by omega
      have cI := fun W => cIs false m n m0 n0 W
      rw [show isPt false m n = Obol.isC m.toNat n.toNat from rfl, hm3, hn3] at cI
      have hH := HR1
      replace hm := Lib.hid hm
      replace hn2 := Lib.hid hn2
      replace hm3 := Lib.hid hm3
      replace hn3 := Lib.hid hn3
      clear hlo hhi hRI HI
      go_upto_region 12 with fail
      have H7 := HR1.out.new #[.bool false, .int .u64 m, .int .u64 n] 31
      clear x0 x1 y0 y1
      generalize wr.alloc (.cells #[.bool false, .int .u64 m, .int .u64 n] 31) = w7 at H7 ⊢
      generalize wr.heap.size = b7 at H7 hl4 ⊢
      have hl7 : Hid (w.heap.size < b7) := Lib.hid (by have := hne.out; omega)
      replace H7 := Lib.hid H7
      have k0 := H7.out.cell (b := b7) (cs := #[.bool false, .int .u64 m, .int .u64 n]) (t := 31) (by simp) 0 rfl
      have k1 := H7.out.cell (b := b7) (cs := #[.bool false, .int .u64 m, .int .u64 n]) (t := 31) (by simp) 1 rfl
      have k2 := H7.out.cell (b := b7) (cs := #[.bool false, .int .u64 m, .int .u64 n]) (t := 31) (by simp) 2 rfl
      have fin : ∀ (W : World) (H : HR w W [(b7, #[.bool false, .int .u64 m, .int .u64 n], 31), (b4, #[.int .u64 m, .int .u64 n], 25), (w.heap.size, #[.bool false, .int .u64 0, .int .u64 0], 31)]) (X Y : Int), HR w (((W.setCell ⟨w.heap.size, 0, none⟩ (.bool false)).setCell ⟨w.heap.size, 1, none⟩ (.int .u64 X)).setCell ⟨w.heap.size, 2, none⟩ (.int .u64 Y)) [(w.heap.size, #[.bool false, .int .u64 X, .int .u64 Y], 31)] := fun W H X Y => HR.put3 (HR.sub (qs := [(w.heap.size, #[.bool false, .int .u64 0, .int .u64 0], 31)]) H (by simp)) (by simp) (Nat.le_refl _)
      replace fin := Lib.hid fin
      cases hC : Obol.isC (Obol.num8 A) (Obol.num8 B)
      · rw [hC] at cI hV
        have hV2 : Hid (crdV M = .tuple #[ptV false 0 0, errV 3]) := Lib.hid (by rw [hV.out]; rfl)
        replace cI := Lib.hid cI
        clear hC hV
        go_wp2_with fail
        refine (cI.out _).mono ?_
        rintro e w8 ⟨rfl, hb8⟩
        have H8 := Lib.hid (H7.out.next hb8)
        clear k0 k1 k2 hb8 H7
        have e0 := H8.out.free (b := w.heap.size) (cs := #[.bool false, .int .u64 0, .int .u64 0]) (t := 31) (by simp) 0
        have e1 := H8.out.free (b := w.heap.size) (cs := #[.bool false, .int .u64 0, .int .u64 0]) (t := 31) (by simp) 1
        have e2 := H8.out.free (b := w.heap.size) (cs := #[.bool false, .int .u64 0, .int .u64 0]) (t := 31) (by simp) 2
        have e3 := H8.out.cell (b := w.heap.size) (cs := #[.bool false, .int .u64 0, .int .u64 0]) (t := 31) (by simp) 0 rfl
        have e4 := H8.out.cell (b := w.heap.size) (cs := #[.bool false, .int .u64 0, .int .u64 0]) (t := 31) (by simp) 1 rfl
        have e5 := H8.out.cell (b := w.heap.size) (cs := #[.bool false, .int .u64 0, .int .u64 0]) (t := 31) (by simp) 2 rfl
        have HS := Lib.hid (fin.out _ H8.out 0 0)
        have s0 := HS.out.cell (b := w.heap.size) (cs := #[.bool false, .int .u64 0, .int .u64 0]) (t := 31) (by simp) 0 rfl
        have s1 := HS.out.cell (b := w.heap.size) (cs := #[.bool false, .int .u64 0, .int .u64 0]) (t := 31) (by simp) 1 rfl
        have s2 := HS.out.cell (b := w.heap.size) (cs := #[.bool false, .int .u64 0, .int .u64 0]) (t := 31) (by simp) 2 rfl
        go_wp2_with fail
        refine bodyPost_ret (v := .tuple #[ptV false 0 0, errV 3]) (by simp [results, Try.results62, go_sem, s0, s1, s2]) rfl ⟨by rw [hV2.out], HS.out.2⟩
      · rw [hC] at cI hV
        have hV2 : Hid (crdV M = .tuple #[ptV false m n, .nilIface]) := Lib.hid (by rw [hV.out]; rfl)
        replace cI := Lib.hid cI
        clear hC hV
        go_wp2_with fail
        refine (cI.out _).mono ?_
        rintro e w8 ⟨rfl, hb8⟩
        have H8 := Lib.hid (H7.out.next hb8)
        clear k0 k1 k2 hb8 H7
        have k0 := H8.out.cell (b := b7) (cs := #[.bool false, .int .u64 m, .int .u64 n]) (t := 31) (by simp) 0 rfl
        have k1 := H8.out.cell (b := b7) (cs := #[.bool false, .int .u64 m, .int .u64 n]) (t := 31) (by simp) 1 rfl
        have k2 := H8.out.cell (b := b7) (cs := #[.bool false, .int .u64 m, .int .u64 n]) (t := 31) (by simp) 2 rfl
        have e0 := H8.out.free (b := w.heap.size) (cs := #[.bool false, .int .u64 0, .int .u64 0]) (t := 31) (by simp) 0
        have e1 := H8.out.free (b := w.heap.size) (cs := #[.bool false, .int .u64 0, .int .u64 0]) (t := 31) (by simp) 1
        have e2 := H8.out.free (b := w.heap.size) (cs := #[.bool false, .int .u64 0, .int .u64 0]) (t := 31) (by simp) 2
        have e3 := H8.out.cell (b := w.heap.size) (cs := #[.bool false, .int .u64 0, .int .u64 0]) (t := 31) (by simp) 0 rfl
        have e4 := H8.out.cell (b := w.heap.size) (cs := #[.bool false, .int .u64 0, .int .u64 0]) (t := 31) (by simp) 1 rfl
        have e5 := H8.out.cell (b := w.heap.size) (cs := #[.bool false, .int .u64 0, .int .u64 0]) (t := 31) (by simp) 2 rfl
        have HS := Lib.hid (fin.out _ H8.out m n)
        have s0 := HS.out.cell (b := w.heap.size) (cs := #[.bool false, .int .u64 m, .int .u64 n]) (t := 31) (by simp) 0 rfl
        have s1 := HS.out.cell (b := w.heap.size) (cs := #[.bool false, .int .u64 m, .int .u64 n]) (t := 31) (by simp) 1 rfl
        have s2 := HS.out.cell (b := w.heap.size) (cs := #[.bool false, .int .u64 m, .int .u64 n]) (t := 31) (by simp) 2 rfl
        go_wp2_with fail
        refine bodyPost_ret (v := .tuple #[ptV false m n, .nilIface]) (by simp [results, Try.results62, go_sem, s0, s1, s2]) rfl ⟨by rw [hV2.out], HS.out.2⟩
end
theorem cRead (b o c : Nat) (M : List Nat) (w : World) (hc : M.length ≤ c) (hc2 : c ≤ 9223372036854775807) (hBL : BL w b o M) (hb256 : ∀ i, M.getD i 0 < 256) (k : Nat) (hk : M.length = k) (hk2 : k = 1 ∨ k = 17) :
    Calls Try.prog 62 #[.slice (some ⟨b, o, none⟩) k c] w fun e w' => e = .returned (crdV M) ∧ Below w.heap.size w w' := by
  rcases hk2 with rfl | rfl
  · by_cases h0 : M.getD 0 0 = 0
    · exact cReadI b o c M w hc hc2 hBL hk h0
    · exact cReadE1 b o c M w hc hc2 hBL hk h0
  · by_cases h0 : M.getD 0 0 = 1
    · exact cRead17 b o c M w hc hc2 hBL hb256 hk h0
    · exact cReadE17 b o c M w hc hc2 hBL hk h0

end Go.Proofs.Ytkfimfjjmdjbdaa
