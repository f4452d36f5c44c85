import Derived.Test.YtallfmiikjmgaaaDoorZWcstr
set_option linter.unusedVariables false
set_option linter.unusedSimpArgs false
/- Walks: package cipher: the mark of data and a sealed text. -/
namespace Obol
theorem padN_add {m n : Nat} (h : m % 16 = 0) : padN (m + n) = padN n := by unfold padN; omega
theorem full_mod (L : List Nat) : (fullL L).length % 16 = 0 := by rw [full_len]; unfold padN; omega
/-- What is laid down behind so many rounds. -/
def allS (D C : List Nat) : Nat → List Nat
  | 0 => []
  | 1 => fullL D
  | _ => fullL D ++ fullL C
def segD (D C : List Nat) (i : Nat) : List Nat := if i = 0 then D else C
theorem allS_mod (D C : List Nat) (i : Nat) : (allS D C i).length % 16 = 0 := by
  match i with
  | 0 => rfl
  | 1 => exact full_mod D
  | _ + 2 => show (fullL D ++ fullL C).length % 16 = 0; rw [List.length_append]; have := full_mod D; have := full_mod C; omega
theorem allS_le (D C : List Nat) (i : Nat) : (allS D C i).length ≤ D.length + C.length + 32 := by
  have h1 : (fullL D).length ≤ D.length + 15 := by rw [full_len]; unfold padN; omega
  have h2 : (fullL C).length ≤ C.length + 15 := by rw [full_len]; unfold padN; omega
  match i with
  | 0 => exact Nat.zero_le _
  | 1 => show (fullL D).length ≤ _; omega
  | _ + 2 => show (fullL D ++ fullL C).length ≤ _; rw [List.length_append]; omega
theorem allS_step (D C : List Nat) {i : Nat} (h : i < 2) : allS D C (i + 1) = allS D C i ++ segD D C i ++ List.replicate (padN (allS D C i ++ segD D C i).length) 0 := by
  match i, h with
  | 0, _ => show fullL D = [] ++ D ++ _; rw [List.nil_append]; rfl
  | 1, _ =>
    show fullL D ++ fullL C = fullL D ++ C ++ List.replicate (padN (fullL D ++ C).length) 0
    rw [List.length_append, padN_add (full_mod D), List.append_assoc]; rfl
def lenD (D C : List Nat) (i : Nat) : Nat := if i = 0 then D.length else C.length
def allT (D C : List Nat) : Nat → List Nat
  | 0 => fullL D ++ fullL C
  | 1 => fullL D ++ fullL C ++ digs 8 D.length
  | _ => fullL D ++ fullL C ++ digs 8 D.length ++ digs 8 C.length
theorem allT_step (D C : List Nat) {i : Nat} (h : i < 2) : allT D C (i + 1) = allT D C i ++ digs 8 (lenD D C i) := by
  match i, h with
  | 0, _ => rfl
  | 1, _ => rfl
theorem allT_all (D C : List Nat) : allT D C 2 = allB D C := by unfold allB; rw [lenS_digs, lenS_digs]; rfl
theorem allT_le (D C : List Nat) (i : Nat) : (allT D C i).length ≤ (allB D C).length := by
  rw [← allT_all]
  match i with
  | 0 => show (fullL D ++ fullL C).length ≤ (fullL D ++ fullL C ++ digs 8 D.length ++ digs 8 C.length).length; simp
  | 1 => show (fullL D ++ fullL C ++ digs 8 D.length).length ≤ (fullL D ++ fullL C ++ digs 8 D.length ++ digs 8 C.length).length; simp
  | _ + 2 => exact Nat.le_refl _
theorem digs_take (V : Nat) {k : Nat} (h : k < 8) : (digs 8 V).take (k + 1) = (digs 8 V).take k ++ [V / 256 ^ k % 256] := by
  rw [List.take_add_one, List.getElem?_eq_getElem (by rw [digs_len]; exact h)]
  have := digs_get 8 V h
  rw [List.getD_eq_getElem?_getD, List.getElem?_eq_getElem (by rw [digs_len]; exact h)] at this
  simp at this
  simp [this]
end Obol
namespace Go.Proofs.YtallfmiikjmgaaaDoor
open Go.RowKit

/-- A slice value that holds these bytes. -/
def Seg (base : Nat) (w : World) (v : Value) (E : List Nat) : Prop := ∃ ao cap, v = .slice ao E.length cap ∧ SlI base w ao cap E ∧ (∀ i, E.getD i 0 < 256) ∧ E.length ≤ 1000000
theorem Seg.below {base : Nat} {w w' : World} {v : Value} {E : List Nat} (h : Seg base w v E) (hb : Below base w w') : Seg base w' v E := by
  obtain ⟨ao, cap, h1, h2, h3⟩ := h
  exact ⟨ao, cap, h1, h2.below hb, h3⟩
theorem Seg.base {base base' : Nat} {w : World} {v : Value} {E : List Nat} (h : Seg base w v E) (hb : base ≤ base') : Seg base' w v E := by
  obtain ⟨ao, cap, h1, h2, h3⟩ := h
  exact ⟨ao, cap, h1, ⟨h2.le, h2.cap, h2.no, fun h0 => by
    obtain ⟨b, o, e1, e2, e3⟩ := h2.bl h0
    exact ⟨b, o, e1, by omega, e3⟩⟩, h3⟩
theorem SlI.arg {base : Nat} {w : World} {ao : Option Addr} {cap : Nat} {E : List Nat} (h : SlI base w ao cap E) : (ao = none → E.length = 0 ∧ cap = 0) ∧ (0 < E.length → ∃ b o, ao = some ⟨b, o, none⟩ ∧ BL w b o E) :=
  ⟨h.no, fun h0 => by
    obtain ⟨b, o, h1, _, h3⟩ := h.bl h0
    exact ⟨b, o, h1, h3⟩⟩
theorem own_any {w : World} {base : Nat} {v : Value} {L : List Nat} (h : OwnB w base v L) : ∃ a c, v = .slice a L.length c := by
  rcases h.2 with ⟨rfl, h0⟩ | ⟨g, cap, cur, h1, _⟩
  · exact ⟨none, 0, by rw [show L.length = 0 by omega]⟩
  · exact ⟨_, _, h1⟩
theorem OwnB.sl {w : World} {base : Nat} {ao : Option Addr} {n cap : Nat} {L : List Nat} (h : OwnB w base (.slice ao n cap) L) : L.length = n ∧ SlI w.heap.size w ao cap L := by
  by_cases hv : Value.slice ao n cap = .slice none 0 0
  · simp only [Value.slice.injEq] at hv
    obtain ⟨rfl, rfl, rfl⟩ := hv
    have h0 : L.length = 0 := by
      rcases h.2 with ⟨_, h0⟩ | ⟨g', cap', cur, h1, _⟩
      · omega
      · cases h1
    exact ⟨h0, by omega, by omega, fun _ => ⟨h0, rfl⟩, fun h1 => by omega⟩
  · obtain ⟨g, cap', he⟩ := own_shape h hv
    simp only [Value.slice.injEq] at he
    obtain ⟨rfl, rfl, rfl⟩ := he
    have hc := own_cap h
    exact ⟨rfl, hc.1, hc.2, (fun h => by cases h), fun _ => ⟨g, 0, rfl, own_lt h, h.bl⟩⟩
theorem newsB1 (w : World) (x : Int) (x0 : 0 ≤ x) : ∀ j, j < [x.toNat].length → (w.alloc (.cells #[.int .u8 x] 5)).cell? ((⟨w.heap.size, 0, none⟩ : Addr).add j) = some (.int .u8 (([x.toNat].getD j 0 : Nat) : Int)) := fun j hj => by
  obtain rfl : j = 0 := by simp at hj; omega
  rw [addP]
  have := (show Row (w.alloc (.cells #[.int .u8 x] 5)) w.heap.size #[.int .u8 x] 5 from Row.new _ _ _).cell 0 rfl
  rw [this]
  simp
  omega

theorem Row.grown {w w' : World} {base b : Nat} {v : Value} {L : List Nat} {cs : Array Value} {t : TypeId} (hR : Row w b cs t) (hO : OwnB w base v L) (ht : t ≠ 5) (hg : w.grownBy w' v.ownBlock) : Row w' b cs t := by
  refine (hg.block b hR.lt ?_).trans hR
  rcases hO.2 with ⟨rfl, _⟩ | ⟨g, cap, cur, rfl, _, h3, _⟩
  · simp [Value.ownBlock]
  · intro h
    simp only [Value.ownBlock, Option.some.injEq] at h
    subst h
    have := h3.symm.trans hR
    simp only [Option.some.injEq, Obj.cells.injEq] at this
    exact ht this.2.1.symm

set_option maxRecDepth 8000 in
set_option maxHeartbeats 8000000 in
theorem qMk (bk ok ck bn on cn : Nat) (K N : List Nat) (HK : B8 32 K) (HN : B8 12 N) (hck : 32 ≤ ck) (hcn : 12 ≤ cn) (vD vC : Value) (D C : List Nat) (w : World) (hbk : bk < w.heap.size) (hbn : bn < w.heap.size) (hBK : BL w bk ok K) (hBN : BL w bn on N) (hD : Seg w.heap.size w vD D) (hC : Seg w.heap.size w vC C) :
    Calls Tryd.prog 68 #[.slice (some ⟨bk, ok, none⟩) 32 ck, .slice (some ⟨bn, on, none⟩) 12 cn, vD, vC] w fun e w' => ∃ g, e = .returned (.tuple #[.slice (some ⟨g, 0, none⟩) 16 16, .nilIface]) ∧ Row w' g (u8s (Obol.bothL K N D C)) 5 ∧ w.heap.size ≤ g ∧ Below w.heap.size w w' := by
  have cB := Lib.hid (qBlock bk ok ck bn on cn K N HK HN 0 (by omega) (by omega) hck hcn w hbk hbn hBK hBN)
  have HD := Lib.hid hD
  have HC := Lib.hid hC
  clear hBK hBN hbk hbn
  obtain ⟨aoD, capD, rfl, -, -, hlD⟩ := hD
  obtain ⟨aoC, capC, rfl, -, -, hlC⟩ := hC
  go_enter Tryd.func68, Tryd.ntmps68
  go_wp2_with fail
  refine cB.out.mono ?_
  rintro e w1 ⟨gb, cb, rfl, hOB, hb1⟩
  rw [show (0 : Int).toNat = 0 from rfl] at hOB
  have hbl := (show OwnB w1 w.heap.size (.slice (some ⟨gb, 0, none⟩) (Obol.blkL K N 0).length cb) (Obol.blkL K N 0) by rw [Obol.blk_len]; exact hOB).bl
  have hgb := own_lt hOB
  have hcb := own_cap hOB
  rw [Obol.blk_len] at hcb
  have hcb2 : (32 : Int) ≤ (cb : Int) := by omega
  have L1 := Lib.hid (⟨hbl, hgb⟩ : BL w1 gb 0 (Obol.blkL K N 0) ∧ gb < w1.heap.size)
  have B1 := Lib.hid hb1
  clear hOB hb1 hbl hgb cB
  go_upto_region 6 with fail
  have R2 := Lib.hid (Row.new w1 #[.slice aoD D.length capD, .slice aoC C.length capC] 42)
  have B2 := Lib.hid (bAlloc B1.out (.cells #[.slice aoD D.length capD, .slice aoC C.length capC] 42))
  have LA : Hid (BL (w1.alloc (.cells #[.slice aoD D.length capD, .slice aoC C.length capC] 42)) gb 0 (Obol.blkL K N 0) ∧ gb < (w1.alloc (.cells #[.slice aoD D.length capD, .slice aoC C.length capC] 42)).heap.size) := Lib.hid ⟨L1.out.1.below (B := w1.heap.size) (bAlloc (Below.refl _ _) _) L1.out.2, by rw [World.size_alloc]; have := L1.out.2; omega⟩
  change Code.wp _ _ _ _ (w1.alloc (.cells #[.slice aoD D.length capD, .slice aoC C.length capC] 42))
  generalize w1.alloc (.cells #[.slice aoD D.length capD, .slice aoC C.length capC] 42) = w2 at R2 B2 LA ⊢
  obtain ⟨bw, hbw⟩ : ∃ x, w1.heap.size = x := ⟨_, rfl⟩
  rw [hbw] at R2 ⊢
  have hbw2 := R2.out.lt
  have hsz := B2.out.size
  have SG : Hid (∀ i : Int, 0 ≤ i → i < 2 → ∃ v, (#[Value.slice aoD D.length capD, Value.slice aoC C.length capC] : Array Value)[i.toNat]? = some v ∧ Seg w2.heap.size w2 v (Obol.segD D C i.toNat)) := Lib.hid (fun i h0 h2 => by
    by_cases h : i = 0
    · subst h
      exact ⟨_, rfl, (HD.out.below B2.out).base hsz⟩
    · obtain rfl : i = 1 := by omega
      exact ⟨_, rfl, (HC.out.below B2.out).base hsz⟩)
  replace hbw := Lib.hid hbw
  clear L1 B1 HD HC
  have O0 : Hid (OwnB w2 w2.heap.size (.slice none 0 0) (Obol.allS D C 0)) := Lib.hid (OwnB.nil _ _)
  have S0 : Hid (Below w2.heap.size w2 w2) := Lib.hid (Below.refl _ _)
  go_loopw [12, 31] (fun q1 q2 wr => ∃ (j : Nat) (a : Option Addr) (c : Nat), q1 = .slice a (Obol.allS D C j).length c ∧ q2 = .int .i64 (j : Int) ∧ j ≤ 2 ∧ Hid (OwnB wr w2.heap.size (.slice a (Obol.allS D C j).length c) (Obol.allS D C j)) ∧ Hid (Below w2.heap.size w2 wr)) (fun _ q2 _ => (2 - intOf q2).toNat)
  case atStart => exact ⟨0, none, 0, rfl, rfl, by omega, O0, S0⟩
  case round =>
    clear O0 S0
    rename World => wr
    obtain ⟨j, a, c, rfl, rfl, hj, O, S⟩ := hrel
    obtain ⟨i, hi⟩ : ∃ i : Int, (j : Int) = i := ⟨_, rfl⟩
    rw [hi]
    have i0 : 0 ≤ i := by omega
    by_cases hj2 : j < 2
    · have i1 : i < 2 := by omega
      have hij : i.toNat = j := by omega
      obtain ⟨v, hv, ao, cap, rfl, hse, hlt, hle⟩ := SG.out i i0 i1
      have cc := (R2.out.below S.out hbw2).cell i.toNat hv
      have hst := Lib.hid (Obol.allS_step D C hj2)
      have hmd := Obol.allS_mod D C j
      rw [hij] at hse hlt hle hv cc
      have hAl := Obol.allS_le D C j
      generalize Obol.allS D C j = A at O hmd hst hAl ⊢
      generalize Obol.segD D C j = E at hse hlt hle hv cc hst
      obtain ⟨v2, w4, hap, hO, hb4, -, -⟩ := append_ownS wr w2.heap.size _ A E O.out ao E.length cap rfl (hse.below S.out).arg.1 (hse.below S.out).arg.2 (by omega) S.out.size
      obtain ⟨a2, c2, rfl⟩ := own_any hO
      replace hle := Lib.hid hle
      rw [List.length_append] at hap hO
      have O1 : Hid (OwnB w4 w2.heap.size (.slice a2 (A.length + E.length + 0) c2) (A ++ E ++ List.replicate 0 0)) := Lib.hid (by rw [List.replicate_zero, List.append_nil]; exact hO)
      have S1 := Lib.hid (S.out.trans hb4)
      obtain ⟨n0, hn0⟩ : ∃ n, A.length + E.length = n := ⟨_, rfl⟩
      have hn0l : n0 ≤ 10000000 := by have := hle.out; omega
      have hni : (n0 : Int) ≤ 10000000 := by omega
      rw [hn0] at hap O1 hO
      have hAE : Hid ((A ++ E).length = n0) := Lib.hid (by rw [List.length_append, hn0])
      have hpe : Obol.padN n0 = (16 - n0 % 16) % 16 := rfl
      have hp16 : Obol.padN n0 < 16 := Nat.mod_lt _ (by decide)
      replace hst : Hid (Obol.allS D C (j + 1) = A ++ E ++ List.replicate (Obol.padN n0) 0) := Lib.hid (by rw [hst.out, hAE.out])
      replace hn0 := Lib.hid hn0
      replace hlt := Lib.hid hlt
      replace hse := Lib.hid hse
      clear hO hb4 O S hmd hv hAl
      go_wp2_with (at_builtin; refine wpList_appended rfl _ _ _ _ rfl _ _ _ rfl rfl hap ?_)
      clear hap cc
      go_loopw [12] (fun q1 wr => ∃ (k : Nat) (a : Option Addr) (c : Nat), q1 = .slice a (n0 + k) c ∧ k ≤ Obol.padN n0 ∧ Hid (OwnB wr w2.heap.size (.slice a (n0 + k) c) (A ++ E ++ List.replicate k 0)) ∧ Hid (Below w2.heap.size w2 wr)) (fun q1 _ => n0 + 16 - sliceLen q1)
      case atStart => exact ⟨0, a2, c2, rfl, Nat.zero_le _, O1, S1⟩
      case round =>
        clear O1 S1
        rename World => wy
        obtain ⟨k, a, c, rfl, hk, O, S⟩ := hrel
        obtain ⟨n, hn⟩ : ∃ n, n0 + k = n := ⟨_, rfl⟩
        rw [hn] at O ⊢
        have ht : ((n : Nat) : Int).tmod 16 = (n : Int) % 16 := Int.tmod_eq_emod_of_nonneg (by omega)
        by_cases hkp : k < Obol.padN n0
        · have hne : 0 < (n : Int) % 16 := by omega
          have hll : (A ++ E ++ List.replicate k 0).length = n := by rw [List.length_append, List.length_replicate, hAE.out]; omega
          obtain ⟨v', w5, hap, hO', hb', -, -⟩ := append_ownB (wy.alloc (.cells #[.int .u8 0] 5)) w2.heap.size _ _ [0] (O.out.below (bAlloc (Below.refl _ wy) _)) ⟨wy.heap.size, 0, none⟩ 1 1 rfl (newsB0 wy) (by rw [hll]; simp; omega) (by rw [World.size_alloc]; have := S.out.size; omega)
          obtain ⟨a3, c3, rfl⟩ := own_any hO'
          have hll2 : (A ++ E ++ List.replicate k 0 ++ [0]).length = n + 1 := by rw [List.length_append, hll]; rfl
          rw [hll2] at hap hO'
          have er : A ++ E ++ List.replicate k 0 ++ [0] = A ++ E ++ List.replicate (k + 1) 0 := by rw [List.append_assoc, List.replicate_succ']
          rw [er] at hO'
          have hn1 : n + 1 = n0 + (k + 1) := by omega
          rw [hn1] at hap hO'
          have ON := Lib.hid hO'
          have BN := Lib.hid (S.out.trans ((bAlloc (Below.refl _ wy) (.cells #[.int .u8 0] 5)).mono S.out.size |>.trans hb'))
          replace hn := Lib.hid hn
          replace hn1 := Lib.hid hn1
          replace hpe := Lib.hid hpe
          clear hO' hb' er hll hll2 O S
          go_wp2_with (at_builtin; refine wpList_appended rfl _ _ _ _ rfl _ _ _ rfl rfl hap ?_)
          go_roundw
          case rel => exact ⟨k + 1, a3, c3, rfl, by omega, ON, BN⟩
          case measure => have := hn.out; simp [sliceLen]; omega
        · have hke : k = Obol.padN n0 := by omega
          have hne : ¬ 0 < (n : Int) % 16 := by omega
          have hnL : n = (Obol.allS D C (j + 1)).length := by rw [hst.out, List.length_append, hAE.out, List.length_replicate]; omega
          have OF : Hid (OwnB wy w2.heap.size (.slice a (Obol.allS D C (j + 1)).length c) (Obol.allS D C (j + 1))) := Lib.hid (by rw [← hnL, hst.out, ← hke]; exact O.out)
          rw [hnL] at hne ht ⊢
          replace hnL := Lib.hid hnL
          replace hke := Lib.hid hke
          replace hn := Lib.hid hn
          clear O hpe
          go_wp2_with fail
          go_roundw
          case rel => exact ⟨j + 1, a, c, rfl, by simp; omega, by omega, OF, S⟩
          case measure => simp [intOf]; omega
    · obtain rfl : j = 2 := by omega
      obtain rfl : i = 2 := by omega
      clear hi
      have O1 : Hid (OwnB wr w2.heap.size (.slice a (Obol.allT D C 0).length c) (Obol.allT D C 0)) := O
      go_upto_region 13 with fail
      change Code.wp _ _ _ _ (wr.alloc (.cells #[.int .i64 ((D.length : Nat) : Int), .int .i64 ((C.length : Nat) : Int)] 3))
      have RZ := Lib.hid (Row.new wr #[.int .i64 ((D.length : Nat) : Int), .int .i64 ((C.length : Nat) : Int)] 3)
      have O2 : Hid (OwnB (wr.alloc (.cells #[.int .i64 ((D.length : Nat) : Int), .int .i64 ((C.length : Nat) : Int)] 3)) w2.heap.size (.slice a (Obol.allT D C 0).length c) (Obol.allT D C 0)) := Lib.hid (O1.out.below (bAlloc (Below.refl _ wr) _))
      have S2 : Hid (Below w2.heap.size w2 (wr.alloc (.cells #[.int .i64 ((D.length : Nat) : Int), .int .i64 ((C.length : Nat) : Int)] 3))) := Lib.hid (S.out.trans ((bAlloc (Below.refl _ wr) _).mono S.out.size))
      clear O O1 S
      generalize wr.alloc (.cells #[.int .i64 ((D.length : Nat) : Int), .int .i64 ((C.length : Nat) : Int)] 3) = w6 at RZ O2 S2 ⊢
      obtain ⟨bz, hbz⟩ : ∃ x, wr.heap.size = x := ⟨_, rfl⟩
      rw [hbz] at RZ ⊢
      replace hbz := Lib.hid hbz
      have hTl := Lib.hid (Obol.allT_le D C)
      have hTm := Obol.allB_len D C
      have hTb : Hid ((Obol.allB D C).length ≤ 10000000) := Lib.hid (by
        rw [hTm]
        have h1 : Obol.padN D.length < 16 := Nat.mod_lt _ (by decide)
        have h2 : Obol.padN C.length < 16 := Nat.mod_lt _ (by decide)
        omega)
      clear hTm
      have LD : Hid (∀ i : Int, 0 ≤ i → i < 2 → ∃ v : Int, (#[Value.int .i64 ((D.length : Nat) : Int), .int .i64 ((C.length : Nat) : Int)] : Array Value)[i.toNat]? = some (.int .i64 v) ∧ v = ((Obol.lenD D C i.toNat : Nat) : Int) ∧ 0 ≤ v ∧ v ≤ 1000000) := Lib.hid (fun i h0 h2 => by
        by_cases h : i = 0
        · subst h
          exact ⟨_, rfl, rfl, by omega, by omega⟩
        · obtain rfl : i = 1 := by omega
          exact ⟨_, rfl, rfl, by omega, by omega⟩)
      go_loopw [12, 52] (fun q1 q2 wr => ∃ (j : Nat) (a : Option Addr) (c : Nat), q1 = .slice a (Obol.allT D C j).length c ∧ q2 = .int .i64 (j : Int) ∧ j ≤ 2 ∧ Hid (OwnB wr w2.heap.size (.slice a (Obol.allT D C j).length c) (Obol.allT D C j)) ∧ Hid (Below w2.heap.size w2 wr) ∧ Hid (Row wr bz #[.int .i64 ((D.length : Nat) : Int), .int .i64 ((C.length : Nat) : Int)] 3)) (fun _ q2 _ => (2 - intOf q2).toNat)
      case atStart => exact ⟨0, a, c, rfl, rfl, by omega, O2, S2, RZ⟩
      case round =>
        clear O2 S2 RZ i0 hj hj2
        rename World => wr
        obtain ⟨j, a, c, rfl, rfl, hj, O, S, RZ⟩ := hrel
        obtain ⟨i, hi⟩ : ∃ i : Int, (j : Int) = i := ⟨_, rfl⟩
        rw [hi]
        have i0 : 0 ≤ i := by omega
        by_cases hj2 : j < 2
        · have i1 : i < 2 := by omega
          have hij : i.toNat = j := by omega
          obtain ⟨v, hv, hvn, v0, v1⟩ := LD.out i i0 i1
          have cc := RZ.out.cell i.toNat hv
          rw [hij] at hvn
          have hst := Lib.hid (Obol.allT_step D C hj2)
          have hAl := hTl.out (j + 1)
          have hAl2 := hTl.out j
          have hAl3 := hTb.out
          generalize Obol.lenD D C j = n at hvn hst
          generalize Obol.allT D C j = A at O hst hAl2 ⊢
          have hvN := Lib.hid hvn
          have O0 : Hid (OwnB wr w2.heap.size (.slice a (A.length + 0) c) (A ++ (Obol.digs 8 n).take 0)) := Lib.hid (by rw [List.take_zero, List.append_nil]; exact O.out)
          have hAm : A.length ≤ 10000000 := by omega
          replace hAl := Lib.hid hAl
          replace hij := Lib.hid hij
          clear hvn hAl2 hAl3 O hv
          go_wp2_with fail
          go_loopw [12, 17] (fun q1 q2 wr => ∃ (k : Nat) (a : Option Addr) (c : Nat), q1 = .slice a (A.length + k) c ∧ q2 = .int .i64 ((8 * k : Nat) : Int) ∧ k ≤ 8 ∧ Hid (OwnB wr w2.heap.size (.slice a (A.length + k) c) (A ++ (Obol.digs 8 n).take k)) ∧ Hid (Below w2.heap.size w2 wr) ∧ Hid (Row wr bz #[.int .i64 ((D.length : Nat) : Int), .int .i64 ((C.length : Nat) : Int)] 3)) (fun _ q2 _ => (64 - intOf q2).toNat)
          case atStart => exact ⟨0, a, c, rfl, rfl, by omega, O0, S, RZ⟩
          case round =>
            clear O0 S RZ cc
            rename World => wy
            obtain ⟨k, a, c, rfl, rfl, hk, O, S, RZ⟩ := hrel
            obtain ⟨x, hx⟩ : ∃ x : Int, ((8 * k : Nat) : Int) = x := ⟨_, rfl⟩
            rw [hx]
            have x0 : 0 ≤ x := by omega
            by_cases hk8 : k < 8
            · have x1 : x < 64 := by omega
              have wx := wrap_small (x := x + 8) (by omega) (by omega)
              obtain ⟨y, hy⟩ : ∃ y : Int, v / 2 ^ x.toNat % 256 = y := ⟨_, rfl⟩
              have y0 : 0 ≤ y := by rw [← hy]; exact Int.emod_nonneg _ (by decide)
              have hyn : y.toNat = n / 256 ^ k % 256 := by
                have e1 : x.toNat = 8 * k := by omega
                have e2 : (2 : Int) ^ (8 * k) = ((256 ^ k : Nat) : Int) := by rw [Int.natCast_pow, Int.pow_mul]; rfl
                rw [← hy, hvN.out, e1, e2, ← Int.natCast_ediv]
                omega
              have hAk : (A ++ (Obol.digs 8 n).take k).length = A.length + k := by rw [List.length_append, List.length_take, Obol.digs_len]; omega
              obtain ⟨v', w5, hap, hO', hb', hg', -⟩ := append_ownB (wy.alloc (.cells #[.int .u8 y] 5)) w2.heap.size _ _ [y.toNat] (O.out.below (bAlloc (Below.refl _ wy) _)) ⟨wy.heap.size, 0, none⟩ 1 1 rfl (newsB1 wy y y0) (by rw [hAk]; simp; omega) (by rw [World.size_alloc]; have := S.out.size; omega)
              have RN := Lib.hid (Row.grown (RZ.out.alloc (.cells #[.int .u8 y] 5)) (O.out.below (bAlloc (Below.refl _ wy) _)) (by decide) hg')
              obtain ⟨a3, c3, rfl⟩ := own_any hO'
              have hll2 : (A ++ (Obol.digs 8 n).take k ++ [y.toNat]).length = A.length + (k + 1) := by rw [List.length_append, hAk]; rfl
              rw [hll2] at hap hO'
              have er : A ++ (Obol.digs 8 n).take k ++ [y.toNat] = A ++ (Obol.digs 8 n).take (k + 1) := by rw [hyn, Obol.digs_take n hk8, List.append_assoc]
              rw [er] at hO'
              have ON := Lib.hid hO'
              have BN := Lib.hid (S.out.trans ((bAlloc (Below.refl _ wy) (.cells #[.int .u8 y] 5)).mono S.out.size |>.trans hb'))
              replace hyn := Lib.hid hyn
              clear hO' hb' hg' er hll2 hAk O S RZ
              go_wp2_with (at_builtin; refine wpList_appended rfl _ _ _ _ rfl _ _ _ rfl rfl hap ?_)
              go_roundw
              case rel => exact ⟨k + 1, a3, c3, rfl, by simp; omega, by omega, ON, BN, RN⟩
              case measure => simp [intOf]; omega
            · obtain rfl : k = 8 := by omega
              have x1 : ¬ x < 64 := by omega
              have hnL : A.length + 8 = (Obol.allT D C (j + 1)).length := by rw [hst.out, List.length_append, Obol.digs_len]
              have OF : Hid (OwnB wy w2.heap.size (.slice a (Obol.allT D C (j + 1)).length c) (Obol.allT D C (j + 1))) := Lib.hid (by
                have h := O.out
                rw [List.take_of_length_le (by rw [Obol.digs_len]; omega)] at h
                rw [← hnL, hst.out]; exact h)
              rw [hnL]
              replace hnL := Lib.hid hnL
              clear O
              go_wp2_with fail
              go_roundw
              case rel => exact ⟨j + 1, a, c, rfl, by simp; omega, by omega, OF, S, RZ⟩
              case measure => simp [intOf]; omega
        · obtain rfl : j = 2 := by omega
          obtain rfl : i = 2 := by omega
          clear hi
          obtain ⟨hAl, hSA⟩ := OwnB.sl O.out
          rw [Obol.allT_all] at hAl hSA
          have cM := qMark gb 0 cb ((Obol.blkL K N 0).take 32) ⟨by rw [List.length_take, Obol.blk_len]; rfl, fun i => by rw [Obol.getD_take]; split; exact (blk_b8 K N 0).lt i; decide⟩ (by omega) a (Obol.allT D C 2).length c (Obol.allB D C) ⟨by rw [Obol.allT_all], Obol.allB_lt (by obtain ⟨_, _, _, _, h, _⟩ := SG.out 0 (by omega) (by omega) |>.choose_spec.2; exact h) (by obtain ⟨_, _, _, _, h, _⟩ := SG.out 1 (by omega) (by omega) |>.choose_spec.2; exact h)⟩ (by rw [Obol.allT_all]; have h := hTb.out; omega) wr (Nat.lt_of_lt_of_le LA.out.2 S.out.size) (fun i hi => by
            rw [List.length_take, Obol.blk_len] at hi
            have h := (LA.out.1.below S.out LA.out.2) i (by rw [Obol.blk_len]; omega)
            rw [h, Obol.getD_take, if_pos (by omega)]) hSA
          replace cM := Lib.hid cM
          have BW := Lib.hid (bThen B2.out S.out B2.out.size)
          clear O hAl hSA
          go_wp2_with fail
          refine cM.out.mono ?_
          rintro e w9 ⟨g, rfl, hR9, hg9, hb9⟩
          have hsz9 := BW.out.size
          have hB9 := bThen BW.out hb9 BW.out.size
          replace hR9 := Lib.hid hR9
          replace hB9 := Lib.hid hB9
          have hg10 := Lib.hid (Nat.le_trans hsz9 hg9)
          clear hb9 hg9 hsz9 cM
          go_wp2_with fail
          go_ret2
          exact ⟨g, rfl, hR9.out, hg10.out, hB9.out⟩

end Go.Proofs.YtallfmiikjmgaaaDoor
