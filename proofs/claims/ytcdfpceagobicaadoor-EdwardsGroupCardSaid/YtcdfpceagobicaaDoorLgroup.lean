import Derived.Test.YtcdfpceagobicaaDoorWfind
import Derived.Deep.CutBlock
import Derived.Deep.DeepCutAuto
/- The walk of the law EdwardsGroup. -/
namespace Go.Proofs.YtcdfpceagobicaaDoor
open Go.RowKit

section
variable {P : Program} {ops : List Oper} {Q : Exit → Act → World → Prop} {md : Region.Mode} {S : World → Prop}
theorem skipG (i : Nat) {oi : Oper} {fuel : Nat} {listed : Array Bool} {a : Act} {w : World} (hQ : ∀ c a d v w, Q (.panic c) (a.put d v) w → Q (.panic c) a w) (hs : Region.noSelect ops.toArray = true) (hS : S w)
    (hi : ops[i]? = some oi) (hf : (Region.free md ops.toArray listed i && (Region.ready md ops.toArray listed).contains i) = true)
    (hw : Region.wanted oi (yielded ops.toArray a.tmps) = false)
    (h : wpAnyH P md ops.toArray Q S fuel (listed.setIfInBounds i true) (a.put oi.dst undef) w) : wpAnyH P md ops.toArray Q S (fuel + 1) listed a w := by
  rw [Bool.and_eq_true] at hf
  exact wpAnyH_take (by rw [List.getElem?_toArray]; exact hi) hs hf.1 hf.2 (fun c a w h => hQ c a _ _ w h) (Or.inr ⟨hw, rfl⟩) hS h
end
/-- Blocks that hold pairs, and what lies below. -/
def GR (w w1 : World) (rs : List (Nat × Int × Int)) : Prop := (∀ r ∈ rs, Row w1 r.1 #[.int .u64 r.2.1, .int .u64 r.2.2] 38) ∧ Below w.heap.size w w1
theorem GR.drew {w w1 : World} {rs : List (Nat × Int × Int)} (h : GR w w1 rs) : GR w w1.drew rs := ⟨fun r hr => (h.1 r hr).drew, bDrew h.2⟩
theorem GR.next {w w1 w2 : World} {rs : List (Nat × Int × Int)} (h : GR w w1 rs) (hb : Below w1.heap.size w1 w2) : GR w w2 rs := ⟨fun r hr => (h.1 r hr).below hb (h.1 r hr).lt, bThen h.2 hb h.2.size⟩
theorem GR.alloc {w w1 : World} {rs : List (Nat × Int × Int)} (h : GR w w1 rs) (o : Obj) : GR w (w1.alloc o) rs := ⟨fun r hr => (h.1 r hr).alloc o, bAlloc h.2 o⟩
theorem GR.new {w w1 : World} {rs : List (Nat × Int × Int)} (h : GR w w1 rs) (x y : Int) : GR w (w1.alloc (.cells #[.int .u64 x, .int .u64 y] 38)) ((w1.heap.size, x, y) :: rs) :=
  ⟨fun r hr => by
    rcases List.mem_cons.1 hr with rfl | hr
    · exact Row.new _ _ _
    · exact (h.1 r hr).alloc _, bAlloc h.2 _⟩
theorem GR.c0 {w w1 : World} {rs : List (Nat × Int × Int)} (h : GR w w1 rs) {b : Nat} {x y : Int} (hr : (b, x, y) ∈ rs) : w1.cell? ⟨b, 0, none⟩ = some (.int .u64 x) := (h.1 _ hr).cell 0 rfl
theorem GR.c1 {w w1 : World} {rs : List (Nat × Int × Int)} (h : GR w w1 rs) {b : Nat} {x y : Int} (hr : (b, x, y) ∈ rs) : w1.cell? ⟨b, 1, none⟩ = some (.int .u64 y) := (h.1 _ hr).cell 1 rfl
theorem GR.tail {w w1 : World} {r : Nat × Int × Int} {rs : List (Nat × Int × Int)} (h : GR w w1 (r :: rs)) : GR w w1 rs := ⟨fun q hq => h.1 q (List.mem_cons_of_mem _ hq), h.2⟩
theorem GR.put {w w1 : World} {D : Nat} {a b x y : Int} {rs : List (Nat × Int × Int)} (h : GR w w1 ((D, a, b) :: rs)) (hne : ∀ r ∈ rs, r.1 ≠ D) (hD : w.heap.size ≤ D) :
    GR w ((w1.setCell ⟨D, 0, none⟩ (.int .u64 x)).setCell ⟨D, 1, none⟩ (.int .u64 y)) ((D, x, y) :: rs) :=
  ⟨fun r hr => by
    rcases List.mem_cons.1 hr with rfl | hr
    · exact (h.1 _ (List.mem_cons_self ..)).set2
    · exact ((h.1 r (List.mem_cons_of_mem _ hr)).other (hne r hr)).other (hne r hr), bSet (bSet h.2 hD) hD⟩
theorem GR.far {w w1 : World} {rs : List (Nat × Int × Int)} (h : GR w w1 rs) : (∀ r ∈ rs, r.1 ≠ w1.heap.size) ∧ w.heap.size ≤ w1.heap.size := ⟨fun r hr => Nat.ne_of_lt (h.1 r hr).lt, h.2.size⟩
theorem GR.lt {w w1 : World} {rs : List (Nat × Int × Int)} (h : GR w w1 rs) {b : Nat} {x y : Int} (hr : (b, x, y) ∈ rs) : b < w1.heap.size := (h.1 _ hr).lt

set_option maxRecDepth 8000 in
set_option maxHeartbeats 4000000 in
theorem walkGroup (w : World) (hG : RowsAt w) (X Y X' Y' X'' Y'' k n : Int) (hX : 0 ≤ X) (hY : 0 ≤ Y) (hX' : 0 ≤ X') (hY' : 0 ≤ Y') (hX'' : 0 ≤ X'') (hY'' : 0 ≤ Y'') (k0 : 0 ≤ k) (k1 : k ≤ 18446744073709551615) (n0 : 0 ≤ n) (n1 : n ≤ 18446744073709551615) :
    Calls Tryd.prog 7 #[edV X Y, edV X' Y', edV X'' Y'', .int .u64 k, .int .u64 n] w fun e w' => e = .returned (.bool true) ∧ Below w.heap.size w w' := by
  obtain ⟨pa, ha⟩ : ∃ p, Obol.Pnt.of (X.toNat, Y.toNat) = p := ⟨_, rfl⟩
  obtain ⟨pb, hb⟩ : ∃ p, Obol.Pnt.of (X'.toNat, Y'.toNat) = p := ⟨_, rfl⟩
  obtain ⟨pc, hc⟩ : ∃ p, Obol.Pnt.of (X''.toNat, Y''.toNat) = p := ⟨_, rfl⟩
  obtain ⟨s1, s2, s10, s20, -, -, sv, so⟩ := coords (pa.add pb)
  obtain ⟨t1, t2, t10, t20, -, -, tv, tO⟩ := coords ((pa.add pb).add pc)
  obtain ⟨u1, u2, u10, u20, -, -, uv, uo⟩ := coords (pc.add pa)
  obtain ⟨m1, m2, m10, m20, -, -, mv, mo⟩ := coords (Obol.Pnt.smul 72057593894066549 pa)
  obtain ⟨q1, q2, q10, q20, -, -, qv, qo⟩ := coords (Obol.Pnt.smul k.toNat pa)
  obtain ⟨r1, r2, r10, r20, -, -, rv, ro⟩ := coords (Obol.Pnt.smul n.toNat pa)
  obtain ⟨z1, z2, z10, z20, -, -, zv, zo⟩ := coords (Obol.Pnt.smul (k.toNat + n.toNat) pa)
  have eY : pb.add (pc.add pa) = (pa.add pb).add pc := by
    rw [← Obol.Pnt.add_assoc, Obol.Pnt.add_comm (pb.add pc) pa, Obol.Pnt.add_assoc]
  have c1 := fun w => gAdd X Y X' Y' hX hY hX' hY' w
  rw [ha, hb, sv] at c1
  have c2 := fun w => gAdd s1 s2 X'' Y'' s10 s20 hX'' hY'' w
  rw [so, hc, tv] at c2
  have c3 := fun w => gAdd X'' Y'' X Y hX'' hY'' hX hY w
  rw [hc, ha, uv] at c3
  have c4 := fun w => gAdd X' Y' u1 u2 hX' hY' u10 u20 w
  rw [hb, uo, eY, tv] at c4
  have c5 := fun w => gMul X Y 72057593894066549 hX hY (by omega) (by omega) w
  rw [ha, litS, mv] at c5
  have c6 := fun w => gMul m1 m2 4 m10 m20 (by omega) (by omega) w
  rw [mo, show (4 : Int).toNat = 4 from rfl, killedS, zeroV] at c6
  have c9 := fun w => gMul X Y k hX hY k0 k1 w
  rw [ha, qv] at c9
  have c10 := fun w => gMul X Y n hX hY n0 n1 w
  rw [ha, rv] at c10
  have c11 := fun w => gAdd q1 q2 r1 r2 q10 q20 r10 r20 w
  rw [qo, ro, ← Obol.Pnt.smul_add, zv] at c11
  have c12 := fun (h : k + n ≤ 18446744073709551615) w => gMul X Y (k + n) hX hY (by omega) h w
  rw [ha, show (k + n).toNat = k.toNat + n.toNat by omega, zv] at c12
  have hGH := Lib.hid hG
  have cF := Lib.hid (fun W (hw : Below w.heap.size w W) => eFind k k0 k1 W (hGH.out.below hw))
  replace c1 := Lib.hid c1
  replace c2 := Lib.hid c2
  replace c3 := Lib.hid c3
  replace c4 := Lib.hid c4
  replace c5 := Lib.hid c5
  replace c6 := Lib.hid c6
  replace c9 := Lib.hid c9
  replace c10 := Lib.hid c10
  replace c11 := Lib.hid c11
  replace c12 := Lib.hid c12
  clear ha hb hc sv so tv tO uv uo mv mo qv qo rv ro zv zo eY hG
  go_enter Tryd.func7, Tryd.ntmps7
  go_wp2_with fail
  have G0 : GR w _ _ := (GR.new (GR.new (GR.new (w := w) (w1 := w) (rs := []) ⟨(fun r hr => by cases hr), Below.refl _ _⟩ X Y) X' Y') X'' Y'')
  rw [World.size_alloc, World.size_alloc] at G0
  refine (up7 _).mono ?_
  rintro e w1 ⟨rfl, hb1⟩
  have G1 := Lib.hid (G0.next hb1)
  clear G0 hb1
  generalize hC : w.heap.size + 1 + 1 = C at G1 ⊢
  generalize hB : w.heap.size + 1 = B at G1 ⊢
  generalize hA : w.heap.size = A at G1 ⊢
  replace hA := Lib.hid hA
  replace hB := Lib.hid hB
  replace hC := Lib.hid hC
  have hzz := zero7
  go_upto_region 2 with fail
  go_cut [12] (fun v wc => ∃ D, v = .pointer (some ⟨D, 0, none⟩) ∧ GR w wc ((D, t1, t2) :: [(C, X'', Y''), (B, X', Y'), (A, X, Y)]))
  case first =>
    refine wp_region_noPanic ?_
    refine wp_region_held_drew (S := fun w' => w'.cell? ⟨A, 0, none⟩ = some (.int .u64 (X)) ∧ w'.cell? ⟨A, 1, none⟩ = some (.int .u64 (Y)) ∧ w'.cell? ⟨B, 0, none⟩ = some (.int .u64 (X')) ∧ w'.cell? ⟨B, 1, none⟩ = some (.int .u64 (Y')) ∧ w'.cell? ⟨C, 0, none⟩ = some (.int .u64 (X'')) ∧ w'.cell? ⟨C, 1, none⟩ = some (.int .u64 (Y'')) ∧ GR w w' [(C, X'', Y''), (B, X', Y'), (A, X, Y)]) (by kernel_rfl) ?_ (fun hHeld => ?_)
    · exact ⟨GR.c0 (GR.drew G1.out) (b := A) (x := X) (y := Y) (by simp), GR.c1 (GR.drew G1.out) (b := A) (x := X) (y := Y) (by simp), GR.c0 (GR.drew G1.out) (b := B) (x := X') (y := Y') (by simp), GR.c1 (GR.drew G1.out) (b := B) (x := X') (y := Y') (by simp), GR.c0 (GR.drew G1.out) (b := C) (x := X'') (y := Y'') (by simp), GR.c1 (GR.drew G1.out) (b := C) (x := X'') (y := Y'') (by simp), (GR.drew G1.out)⟩
    have P0 := GR.drew G1.out
    refine takeH 0 (fun _ _ _ _ _ h => h) (by kernel_rfl) hHeld rfl (by kernel_rfl) (by rfl) (v := ?_) ?_ ?_
    rotate_left
    ((intro wz hz; (try dsimp only at hz); go_simp) <;> with_reducible rfl)
    try simp only [Act.put, List.setIfInBounds_toArray, List.set_cons_zero, List.set_cons_succ]
    refine takeH 1 (fun _ _ _ _ _ h => h) (by kernel_rfl) hHeld rfl (by kernel_rfl) (by rfl) (v := ?_) ?_ ?_
    rotate_left
    ((intro wz hz; (try dsimp only at hz); go_simp) <;> with_reducible rfl)
    try simp only [Act.put, List.setIfInBounds_toArray, List.set_cons_zero, List.set_cons_succ]
    refine takeH 3 (fun _ _ _ _ _ h => h) (by kernel_rfl) hHeld rfl (by kernel_rfl) (by rfl) (v := ?_) ?_ ?_
    rotate_left
    ((intro wz hz; (try dsimp only at hz); go_simp) <;> with_reducible rfl)
    try simp only [Act.put, List.setIfInBounds_toArray, List.set_cons_zero, List.set_cons_succ]
    refine wpAnyH_ready (rs := [2, 5]) (by kernel_rfl) (by simp) ?_
    refine AllReadyH.cons (i := 2) (by rw [List.getElem?_toArray]; exact rfl) (fun K hK => ?_) (AllReadyH.cons (i := 5) (by rw [List.getElem?_toArray]; exact rfl) (fun K hK => ?_) AllReadyH.nil)
    · go_simp
      refine (c1.out _).mono ?_
      rintro e wq1 ⟨rfl, hq1⟩
      have P1 := GR.next P0 hq1
      refine hK.out _ _ ?_ (fun hHeld => ?_)
      · exact ⟨GR.c0 P1 (b := A) (x := X) (y := Y) (by simp), GR.c1 P1 (b := A) (x := X) (y := Y) (by simp), GR.c0 P1 (b := B) (x := X') (y := Y') (by simp), GR.c1 P1 (b := B) (x := X') (y := Y') (by simp), GR.c0 P1 (b := C) (x := X'') (y := Y'') (by simp), GR.c1 P1 (b := C) (x := X'') (y := Y'') (by simp), P1⟩
      clear hK K
      try simp only [Act.put, List.setIfInBounds_toArray, List.set_cons_zero, List.set_cons_succ]
      refine wpAnyH_ready (rs := [4, 5]) (by kernel_rfl) (by simp) ?_
      refine AllReadyH.cons (i := 4) (by rw [List.getElem?_toArray]; exact rfl) (fun K hK => ?_) (AllReadyH.cons (i := 5) (by rw [List.getElem?_toArray]; exact rfl) (fun K hK => ?_) AllReadyH.nil)
      · go_simp
        refine (c2.out _).mono ?_
        rintro e wq2 ⟨rfl, hq2⟩
        have P2 := GR.next P1 hq2
        refine hK.out _ _ ?_ (fun hHeld => ?_)
        · exact ⟨GR.c0 P2 (b := A) (x := X) (y := Y) (by simp), GR.c1 P2 (b := A) (x := X) (y := Y) (by simp), GR.c0 P2 (b := B) (x := X') (y := Y') (by simp), GR.c1 P2 (b := B) (x := X') (y := Y') (by simp), GR.c0 P2 (b := C) (x := X'') (y := Y'') (by simp), GR.c1 P2 (b := C) (x := X'') (y := Y'') (by simp), P2⟩
        clear hK K
        try simp only [Act.put, List.setIfInBounds_toArray, List.set_cons_zero, List.set_cons_succ]
        refine stepH 5 (by kernel_rfl) rfl (by rfl) (fun K hK => ?_)
        go_simp
        have E3 := GR.new P2 0 0
        have F := GR.far P2
        try (rw [show ∀ W : World, W.drew.heap.size = W.heap.size from fun _ => rfl] at E3 F)
        have P3 := GR.tail E3
        refine hK.out _ _ ?_ (fun hHeld => ?_)
        · exact ⟨GR.c0 P3 (b := A) (x := X) (y := Y) (by simp), GR.c1 P3 (b := A) (x := X) (y := Y) (by simp), GR.c0 P3 (b := B) (x := X') (y := Y') (by simp), GR.c1 P3 (b := B) (x := X') (y := Y') (by simp), GR.c0 P3 (b := C) (x := X'') (y := Y'') (by simp), GR.c1 P3 (b := C) (x := X'') (y := Y'') (by simp), P3⟩
        clear hK K
        have BS := P2
        try simp only [Act.put, List.setIfInBounds_toArray, List.set_cons_zero, List.set_cons_succ]
        refine stepH 6 (by kernel_rfl) rfl (by rfl) (fun K hK => ?_)
        have d0 := (E3.1 _ (List.mem_cons_self ..)).cell 0 rfl
        have d1 := (E3.1 _ (List.mem_cons_self ..)).cell 1 rfl
        have f0 := (E3.1 _ (List.mem_cons_self ..)).free 0
        have f1 := (E3.1 _ (List.mem_cons_self ..)).free 1
        go_simp
        have HF : GR w _ ((_, t1, t2) :: [(C, X'', Y''), (B, X', Y'), (A, X, Y)]) := GR.put (x := t1) (y := t2) E3 F.1 F.2
        refine hK.out _ _ ?_ (fun hHeld => ?_)
        · first | exact ⟨GR.c0 (GR.tail HF) (b := A) (x := X) (y := Y) (by simp), GR.c1 (GR.tail HF) (b := A) (x := X) (y := Y) (by simp), GR.c0 (GR.tail HF) (b := B) (x := X') (y := Y') (by simp), GR.c1 (GR.tail HF) (b := B) (x := X') (y := Y') (by simp), GR.c0 (GR.tail HF) (b := C) (x := X'') (y := Y'') (by simp), GR.c1 (GR.tail HF) (b := C) (x := X'') (y := Y'') (by simp), (GR.tail HF)⟩ | exact ⟨GR.c0 (GR.alloc BS _) (b := A) (x := X) (y := Y) (by simp), GR.c1 (GR.alloc BS _) (b := A) (x := X) (y := Y) (by simp), GR.c0 (GR.alloc BS _) (b := B) (x := X') (y := Y') (by simp), GR.c1 (GR.alloc BS _) (b := B) (x := X') (y := Y') (by simp), GR.c0 (GR.alloc BS _) (b := C) (x := X'') (y := Y'') (by simp), GR.c1 (GR.alloc BS _) (b := C) (x := X'') (y := Y'') (by simp), (GR.alloc BS _)⟩
        clear hK K
        try simp only [Act.put, List.setIfInBounds_toArray, List.set_cons_zero, List.set_cons_succ]
        refine wpAnyH_done (by kernel_rfl) (NoPanic.normal ?_) _
        go_wp2_with fail
        go_meet
        first | exact ⟨_, rfl, HF⟩ | exact ⟨_, rfl, GR.new BS t1 t2⟩
      · go_simp
        have E5 := GR.new P1 0 0
        have F := GR.far P1
        try (rw [show ∀ W : World, W.drew.heap.size = W.heap.size from fun _ => rfl] at E5 F)
        have P5 := GR.tail E5
        refine hK.out _ _ ?_ (fun hHeld => ?_)
        · exact ⟨GR.c0 P5 (b := A) (x := X) (y := Y) (by simp), GR.c1 P5 (b := A) (x := X) (y := Y) (by simp), GR.c0 P5 (b := B) (x := X') (y := Y') (by simp), GR.c1 P5 (b := B) (x := X') (y := Y') (by simp), GR.c0 P5 (b := C) (x := X'') (y := Y'') (by simp), GR.c1 P5 (b := C) (x := X'') (y := Y'') (by simp), P5⟩
        clear hK K
        have BS := P1
        try simp only [Act.put, List.setIfInBounds_toArray, List.set_cons_zero, List.set_cons_succ]
        refine stepH 4 (by kernel_rfl) rfl (by rfl) (fun K hK => ?_)
        go_simp
        refine (c2.out _).mono ?_
        rintro e wq6 ⟨rfl, hq6⟩
        have E6 := GR.next E5 hq6
        have P6 := GR.tail E6
        refine hK.out _ _ ?_ (fun hHeld => ?_)
        · exact ⟨GR.c0 P6 (b := A) (x := X) (y := Y) (by simp), GR.c1 P6 (b := A) (x := X) (y := Y) (by simp), GR.c0 P6 (b := B) (x := X') (y := Y') (by simp), GR.c1 P6 (b := B) (x := X') (y := Y') (by simp), GR.c0 P6 (b := C) (x := X'') (y := Y'') (by simp), GR.c1 P6 (b := C) (x := X'') (y := Y'') (by simp), P6⟩
        clear hK K
        try simp only [Act.put, List.setIfInBounds_toArray, List.set_cons_zero, List.set_cons_succ]
        refine stepH 6 (by kernel_rfl) rfl (by rfl) (fun K hK => ?_)
        have d0 := (E6.1 _ (List.mem_cons_self ..)).cell 0 rfl
        have d1 := (E6.1 _ (List.mem_cons_self ..)).cell 1 rfl
        have f0 := (E6.1 _ (List.mem_cons_self ..)).free 0
        have f1 := (E6.1 _ (List.mem_cons_self ..)).free 1
        go_simp
        have HF : GR w _ ((_, t1, t2) :: [(C, X'', Y''), (B, X', Y'), (A, X, Y)]) := GR.put (x := t1) (y := t2) E6 F.1 F.2
        refine hK.out _ _ ?_ (fun hHeld => ?_)
        · first | exact ⟨GR.c0 (GR.tail HF) (b := A) (x := X) (y := Y) (by simp), GR.c1 (GR.tail HF) (b := A) (x := X) (y := Y) (by simp), GR.c0 (GR.tail HF) (b := B) (x := X') (y := Y') (by simp), GR.c1 (GR.tail HF) (b := B) (x := X') (y := Y') (by simp), GR.c0 (GR.tail HF) (b := C) (x := X'') (y := Y'') (by simp), GR.c1 (GR.tail HF) (b := C) (x := X'') (y := Y'') (by simp), (GR.tail HF)⟩ | exact ⟨GR.c0 (GR.alloc BS _) (b := A) (x := X) (y := Y) (by simp), GR.c1 (GR.alloc BS _) (b := A) (x := X) (y := Y) (by simp), GR.c0 (GR.alloc BS _) (b := B) (x := X') (y := Y') (by simp), GR.c1 (GR.alloc BS _) (b := B) (x := X') (y := Y') (by simp), GR.c0 (GR.alloc BS _) (b := C) (x := X'') (y := Y'') (by simp), GR.c1 (GR.alloc BS _) (b := C) (x := X'') (y := Y'') (by simp), (GR.alloc BS _)⟩
        clear hK K
        try simp only [Act.put, List.setIfInBounds_toArray, List.set_cons_zero, List.set_cons_succ]
        refine wpAnyH_done (by kernel_rfl) (NoPanic.normal ?_) _
        go_wp2_with fail
        go_meet
        first | exact ⟨_, rfl, HF⟩ | exact ⟨_, rfl, GR.new BS t1 t2⟩
    · go_simp
      have E8 := GR.new P0 0 0
      have F := GR.far P0
      try (rw [show ∀ W : World, W.drew.heap.size = W.heap.size from fun _ => rfl] at E8 F)
      have P8 := GR.tail E8
      refine hK.out _ _ ?_ (fun hHeld => ?_)
      · exact ⟨GR.c0 P8 (b := A) (x := X) (y := Y) (by simp), GR.c1 P8 (b := A) (x := X) (y := Y) (by simp), GR.c0 P8 (b := B) (x := X') (y := Y') (by simp), GR.c1 P8 (b := B) (x := X') (y := Y') (by simp), GR.c0 P8 (b := C) (x := X'') (y := Y'') (by simp), GR.c1 P8 (b := C) (x := X'') (y := Y'') (by simp), P8⟩
      clear hK K
      have BS := P0
      try simp only [Act.put, List.setIfInBounds_toArray, List.set_cons_zero, List.set_cons_succ]
      refine stepH 2 (by kernel_rfl) rfl (by rfl) (fun K hK => ?_)
      go_simp
      refine (c1.out _).mono ?_
      rintro e wq9 ⟨rfl, hq9⟩
      have E9 := GR.next E8 hq9
      have P9 := GR.tail E9
      refine hK.out _ _ ?_ (fun hHeld => ?_)
      · exact ⟨GR.c0 P9 (b := A) (x := X) (y := Y) (by simp), GR.c1 P9 (b := A) (x := X) (y := Y) (by simp), GR.c0 P9 (b := B) (x := X') (y := Y') (by simp), GR.c1 P9 (b := B) (x := X') (y := Y') (by simp), GR.c0 P9 (b := C) (x := X'') (y := Y'') (by simp), GR.c1 P9 (b := C) (x := X'') (y := Y'') (by simp), P9⟩
      clear hK K
      try simp only [Act.put, List.setIfInBounds_toArray, List.set_cons_zero, List.set_cons_succ]
      refine stepH 4 (by kernel_rfl) rfl (by rfl) (fun K hK => ?_)
      go_simp
      refine (c2.out _).mono ?_
      rintro e wq10 ⟨rfl, hq10⟩
      have E10 := GR.next E9 hq10
      have P10 := GR.tail E10
      refine hK.out _ _ ?_ (fun hHeld => ?_)
      · exact ⟨GR.c0 P10 (b := A) (x := X) (y := Y) (by simp), GR.c1 P10 (b := A) (x := X) (y := Y) (by simp), GR.c0 P10 (b := B) (x := X') (y := Y') (by simp), GR.c1 P10 (b := B) (x := X') (y := Y') (by simp), GR.c0 P10 (b := C) (x := X'') (y := Y'') (by simp), GR.c1 P10 (b := C) (x := X'') (y := Y'') (by simp), P10⟩
      clear hK K
      try simp only [Act.put, List.setIfInBounds_toArray, List.set_cons_zero, List.set_cons_succ]
      refine stepH 6 (by kernel_rfl) rfl (by rfl) (fun K hK => ?_)
      have d0 := (E10.1 _ (List.mem_cons_self ..)).cell 0 rfl
      have d1 := (E10.1 _ (List.mem_cons_self ..)).cell 1 rfl
      have f0 := (E10.1 _ (List.mem_cons_self ..)).free 0
      have f1 := (E10.1 _ (List.mem_cons_self ..)).free 1
      go_simp
      have HF : GR w _ ((_, t1, t2) :: [(C, X'', Y''), (B, X', Y'), (A, X, Y)]) := GR.put (x := t1) (y := t2) E10 F.1 F.2
      refine hK.out _ _ ?_ (fun hHeld => ?_)
      · first | exact ⟨GR.c0 (GR.tail HF) (b := A) (x := X) (y := Y) (by simp), GR.c1 (GR.tail HF) (b := A) (x := X) (y := Y) (by simp), GR.c0 (GR.tail HF) (b := B) (x := X') (y := Y') (by simp), GR.c1 (GR.tail HF) (b := B) (x := X') (y := Y') (by simp), GR.c0 (GR.tail HF) (b := C) (x := X'') (y := Y'') (by simp), GR.c1 (GR.tail HF) (b := C) (x := X'') (y := Y'') (by simp), (GR.tail HF)⟩ | exact ⟨GR.c0 (GR.alloc BS _) (b := A) (x := X) (y := Y) (by simp), GR.c1 (GR.alloc BS _) (b := A) (x := X) (y := Y) (by simp), GR.c0 (GR.alloc BS _) (b := B) (x := X') (y := Y') (by simp), GR.c1 (GR.alloc BS _) (b := B) (x := X') (y := Y') (by simp), GR.c0 (GR.alloc BS _) (b := C) (x := X'') (y := Y'') (by simp), GR.c1 (GR.alloc BS _) (b := C) (x := X'') (y := Y'') (by simp), (GR.alloc BS _)⟩
      clear hK K
      try simp only [Act.put, List.setIfInBounds_toArray, List.set_cons_zero, List.set_cons_succ]
      refine wpAnyH_done (by kernel_rfl) (NoPanic.normal ?_) _
      go_wp2_with fail
      go_meet
      first | exact ⟨_, rfl, HF⟩ | exact ⟨_, rfl, GR.new BS t1 t2⟩
  case' rest =>
    rename World => w2
    obtain ⟨DX, rfl, G2⟩ := hcut
    replace G2 := Lib.hid G2
    clear G1
  go_upto_region 3 with fail
  go_cut [13] (fun v wc => ∃ D, v = .pointer (some ⟨D, 0, none⟩) ∧ GR w wc ((D, t1, t2) :: [(DX, t1, t2), (C, X'', Y''), (B, X', Y'), (A, X, Y)]))
  case first =>
    refine wp_region_noPanic ?_
    refine wp_region_held_drew (S := fun w' => w'.cell? ⟨B, 0, none⟩ = some (.int .u64 (X')) ∧ w'.cell? ⟨B, 1, none⟩ = some (.int .u64 (Y')) ∧ w'.cell? ⟨C, 0, none⟩ = some (.int .u64 (X'')) ∧ w'.cell? ⟨C, 1, none⟩ = some (.int .u64 (Y'')) ∧ w'.cell? ⟨A, 0, none⟩ = some (.int .u64 (X)) ∧ w'.cell? ⟨A, 1, none⟩ = some (.int .u64 (Y)) ∧ GR w w' [(DX, t1, t2), (C, X'', Y''), (B, X', Y'), (A, X, Y)]) (by kernel_rfl) ?_ (fun hHeld => ?_)
    · exact ⟨GR.c0 (GR.drew G2.out) (b := B) (x := X') (y := Y') (by simp), GR.c1 (GR.drew G2.out) (b := B) (x := X') (y := Y') (by simp), GR.c0 (GR.drew G2.out) (b := C) (x := X'') (y := Y'') (by simp), GR.c1 (GR.drew G2.out) (b := C) (x := X'') (y := Y'') (by simp), GR.c0 (GR.drew G2.out) (b := A) (x := X) (y := Y) (by simp), GR.c1 (GR.drew G2.out) (b := A) (x := X) (y := Y) (by simp), (GR.drew G2.out)⟩
    have P0 := GR.drew G2.out
    refine takeH 0 (fun _ _ _ _ _ h => h) (by kernel_rfl) hHeld rfl (by kernel_rfl) (by rfl) (v := ?_) ?_ ?_
    rotate_left
    ((intro wz hz; (try dsimp only at hz); go_simp) <;> with_reducible rfl)
    try simp only [Act.put, List.setIfInBounds_toArray, List.set_cons_zero, List.set_cons_succ]
    refine takeH 1 (fun _ _ _ _ _ h => h) (by kernel_rfl) hHeld rfl (by kernel_rfl) (by rfl) (v := ?_) ?_ ?_
    rotate_left
    ((intro wz hz; (try dsimp only at hz); go_simp) <;> with_reducible rfl)
    try simp only [Act.put, List.setIfInBounds_toArray, List.set_cons_zero, List.set_cons_succ]
    refine takeH 2 (fun _ _ _ _ _ h => h) (by kernel_rfl) hHeld rfl (by kernel_rfl) (by rfl) (v := ?_) ?_ ?_
    rotate_left
    ((intro wz hz; (try dsimp only at hz); go_simp) <;> with_reducible rfl)
    try simp only [Act.put, List.setIfInBounds_toArray, List.set_cons_zero, List.set_cons_succ]
    refine wpAnyH_ready (rs := [3, 5]) (by kernel_rfl) (by simp) ?_
    refine AllReadyH.cons (i := 3) (by rw [List.getElem?_toArray]; exact rfl) (fun K hK => ?_) (AllReadyH.cons (i := 5) (by rw [List.getElem?_toArray]; exact rfl) (fun K hK => ?_) AllReadyH.nil)
    · go_simp
      refine (c3.out _).mono ?_
      rintro e wq12 ⟨rfl, hq12⟩
      have P12 := GR.next P0 hq12
      refine hK.out _ _ ?_ (fun hHeld => ?_)
      · exact ⟨GR.c0 P12 (b := B) (x := X') (y := Y') (by simp), GR.c1 P12 (b := B) (x := X') (y := Y') (by simp), GR.c0 P12 (b := C) (x := X'') (y := Y'') (by simp), GR.c1 P12 (b := C) (x := X'') (y := Y'') (by simp), GR.c0 P12 (b := A) (x := X) (y := Y) (by simp), GR.c1 P12 (b := A) (x := X) (y := Y) (by simp), P12⟩
      clear hK K
      try simp only [Act.put, List.setIfInBounds_toArray, List.set_cons_zero, List.set_cons_succ]
      refine wpAnyH_ready (rs := [4, 5]) (by kernel_rfl) (by simp) ?_
      refine AllReadyH.cons (i := 4) (by rw [List.getElem?_toArray]; exact rfl) (fun K hK => ?_) (AllReadyH.cons (i := 5) (by rw [List.getElem?_toArray]; exact rfl) (fun K hK => ?_) AllReadyH.nil)
      · go_simp
        refine (c4.out _).mono ?_
        rintro e wq13 ⟨rfl, hq13⟩
        have P13 := GR.next P12 hq13
        refine hK.out _ _ ?_ (fun hHeld => ?_)
        · exact ⟨GR.c0 P13 (b := B) (x := X') (y := Y') (by simp), GR.c1 P13 (b := B) (x := X') (y := Y') (by simp), GR.c0 P13 (b := C) (x := X'') (y := Y'') (by simp), GR.c1 P13 (b := C) (x := X'') (y := Y'') (by simp), GR.c0 P13 (b := A) (x := X) (y := Y) (by simp), GR.c1 P13 (b := A) (x := X) (y := Y) (by simp), P13⟩
        clear hK K
        try simp only [Act.put, List.setIfInBounds_toArray, List.set_cons_zero, List.set_cons_succ]
        refine stepH 5 (by kernel_rfl) rfl (by rfl) (fun K hK => ?_)
        go_simp
        have E14 := GR.new P13 0 0
        have F := GR.far P13
        try (rw [show ∀ W : World, W.drew.heap.size = W.heap.size from fun _ => rfl] at E14 F)
        have P14 := GR.tail E14
        refine hK.out _ _ ?_ (fun hHeld => ?_)
        · exact ⟨GR.c0 P14 (b := B) (x := X') (y := Y') (by simp), GR.c1 P14 (b := B) (x := X') (y := Y') (by simp), GR.c0 P14 (b := C) (x := X'') (y := Y'') (by simp), GR.c1 P14 (b := C) (x := X'') (y := Y'') (by simp), GR.c0 P14 (b := A) (x := X) (y := Y) (by simp), GR.c1 P14 (b := A) (x := X) (y := Y) (by simp), P14⟩
        clear hK K
        have BS := P13
        try simp only [Act.put, List.setIfInBounds_toArray, List.set_cons_zero, List.set_cons_succ]
        refine stepH 6 (by kernel_rfl) rfl (by rfl) (fun K hK => ?_)
        have d0 := (E14.1 _ (List.mem_cons_self ..)).cell 0 rfl
        have d1 := (E14.1 _ (List.mem_cons_self ..)).cell 1 rfl
        have f0 := (E14.1 _ (List.mem_cons_self ..)).free 0
        have f1 := (E14.1 _ (List.mem_cons_self ..)).free 1
        go_simp
        have HF : GR w _ ((_, t1, t2) :: [(DX, t1, t2), (C, X'', Y''), (B, X', Y'), (A, X, Y)]) := GR.put (x := t1) (y := t2) E14 F.1 F.2
        refine hK.out _ _ ?_ (fun hHeld => ?_)
        · first | exact ⟨GR.c0 (GR.tail HF) (b := B) (x := X') (y := Y') (by simp), GR.c1 (GR.tail HF) (b := B) (x := X') (y := Y') (by simp), GR.c0 (GR.tail HF) (b := C) (x := X'') (y := Y'') (by simp), GR.c1 (GR.tail HF) (b := C) (x := X'') (y := Y'') (by simp), GR.c0 (GR.tail HF) (b := A) (x := X) (y := Y) (by simp), GR.c1 (GR.tail HF) (b := A) (x := X) (y := Y) (by simp), (GR.tail HF)⟩ | exact ⟨GR.c0 (GR.alloc BS _) (b := B) (x := X') (y := Y') (by simp), GR.c1 (GR.alloc BS _) (b := B) (x := X') (y := Y') (by simp), GR.c0 (GR.alloc BS _) (b := C) (x := X'') (y := Y'') (by simp), GR.c1 (GR.alloc BS _) (b := C) (x := X'') (y := Y'') (by simp), GR.c0 (GR.alloc BS _) (b := A) (x := X) (y := Y) (by simp), GR.c1 (GR.alloc BS _) (b := A) (x := X) (y := Y) (by simp), (GR.alloc BS _)⟩
        clear hK K
        try simp only [Act.put, List.setIfInBounds_toArray, List.set_cons_zero, List.set_cons_succ]
        refine wpAnyH_done (by kernel_rfl) (NoPanic.normal ?_) _
        go_wp2_with fail
        go_meet
        first | exact ⟨_, rfl, HF⟩ | exact ⟨_, rfl, GR.new BS t1 t2⟩
      · go_simp
        have E16 := GR.new P12 0 0
        have F := GR.far P12
        try (rw [show ∀ W : World, W.drew.heap.size = W.heap.size from fun _ => rfl] at E16 F)
        have P16 := GR.tail E16
        refine hK.out _ _ ?_ (fun hHeld => ?_)
        · exact ⟨GR.c0 P16 (b := B) (x := X') (y := Y') (by simp), GR.c1 P16 (b := B) (x := X') (y := Y') (by simp), GR.c0 P16 (b := C) (x := X'') (y := Y'') (by simp), GR.c1 P16 (b := C) (x := X'') (y := Y'') (by simp), GR.c0 P16 (b := A) (x := X) (y := Y) (by simp), GR.c1 P16 (b := A) (x := X) (y := Y) (by simp), P16⟩
        clear hK K
        have BS := P12
        try simp only [Act.put, List.setIfInBounds_toArray, List.set_cons_zero, List.set_cons_succ]
        refine stepH 4 (by kernel_rfl) rfl (by rfl) (fun K hK => ?_)
        go_simp
        refine (c4.out _).mono ?_
        rintro e wq17 ⟨rfl, hq17⟩
        have E17 := GR.next E16 hq17
        have P17 := GR.tail E17
        refine hK.out _ _ ?_ (fun hHeld => ?_)
        · exact ⟨GR.c0 P17 (b := B) (x := X') (y := Y') (by simp), GR.c1 P17 (b := B) (x := X') (y := Y') (by simp), GR.c0 P17 (b := C) (x := X'') (y := Y'') (by simp), GR.c1 P17 (b := C) (x := X'') (y := Y'') (by simp), GR.c0 P17 (b := A) (x := X) (y := Y) (by simp), GR.c1 P17 (b := A) (x := X) (y := Y) (by simp), P17⟩
        clear hK K
        try simp only [Act.put, List.setIfInBounds_toArray, List.set_cons_zero, List.set_cons_succ]
        refine stepH 6 (by kernel_rfl) rfl (by rfl) (fun K hK => ?_)
        have d0 := (E17.1 _ (List.mem_cons_self ..)).cell 0 rfl
        have d1 := (E17.1 _ (List.mem_cons_self ..)).cell 1 rfl
        have f0 := (E17.1 _ (List.mem_cons_self ..)).free 0
        have f1 := (E17.1 _ (List.mem_cons_self ..)).free 1
        go_simp
        have HF : GR w _ ((_, t1, t2) :: [(DX, t1, t2), (C, X'', Y''), (B, X', Y'), (A, X, Y)]) := GR.put (x := t1) (y := t2) E17 F.1 F.2
        refine hK.out _ _ ?_ (fun hHeld => ?_)
        · first | exact ⟨GR.c0 (GR.tail HF) (b := B) (x := X') (y := Y') (by simp), GR.c1 (GR.tail HF) (b := B) (x := X') (y := Y') (by simp), GR.c0 (GR.tail HF) (b := C) (x := X'') (y := Y'') (by simp), GR.c1 (GR.tail HF) (b := C) (x := X'') (y := Y'') (by simp), GR.c0 (GR.tail HF) (b := A) (x := X) (y := Y) (by simp), GR.c1 (GR.tail HF) (b := A) (x := X) (y := Y) (by simp), (GR.tail HF)⟩ | exact ⟨GR.c0 (GR.alloc BS _) (b := B) (x := X') (y := Y') (by simp), GR.c1 (GR.alloc BS _) (b := B) (x := X') (y := Y') (by simp), GR.c0 (GR.alloc BS _) (b := C) (x := X'') (y := Y'') (by simp), GR.c1 (GR.alloc BS _) (b := C) (x := X'') (y := Y'') (by simp), GR.c0 (GR.alloc BS _) (b := A) (x := X) (y := Y) (by simp), GR.c1 (GR.alloc BS _) (b := A) (x := X) (y := Y) (by simp), (GR.alloc BS _)⟩
        clear hK K
        try simp only [Act.put, List.setIfInBounds_toArray, List.set_cons_zero, List.set_cons_succ]
        refine wpAnyH_done (by kernel_rfl) (NoPanic.normal ?_) _
        go_wp2_with fail
        go_meet
        first | exact ⟨_, rfl, HF⟩ | exact ⟨_, rfl, GR.new BS t1 t2⟩
    · go_simp
      have E19 := GR.new P0 0 0
      have F := GR.far P0
      try (rw [show ∀ W : World, W.drew.heap.size = W.heap.size from fun _ => rfl] at E19 F)
      have P19 := GR.tail E19
      refine hK.out _ _ ?_ (fun hHeld => ?_)
      · exact ⟨GR.c0 P19 (b := B) (x := X') (y := Y') (by simp), GR.c1 P19 (b := B) (x := X') (y := Y') (by simp), GR.c0 P19 (b := C) (x := X'') (y := Y'') (by simp), GR.c1 P19 (b := C) (x := X'') (y := Y'') (by simp), GR.c0 P19 (b := A) (x := X) (y := Y) (by simp), GR.c1 P19 (b := A) (x := X) (y := Y) (by simp), P19⟩
      clear hK K
      have BS := P0
      try simp only [Act.put, List.setIfInBounds_toArray, List.set_cons_zero, List.set_cons_succ]
      refine stepH 3 (by kernel_rfl) rfl (by rfl) (fun K hK => ?_)
      go_simp
      refine (c3.out _).mono ?_
      rintro e wq20 ⟨rfl, hq20⟩
      have E20 := GR.next E19 hq20
      have P20 := GR.tail E20
      refine hK.out _ _ ?_ (fun hHeld => ?_)
      · exact ⟨GR.c0 P20 (b := B) (x := X') (y := Y') (by simp), GR.c1 P20 (b := B) (x := X') (y := Y') (by simp), GR.c0 P20 (b := C) (x := X'') (y := Y'') (by simp), GR.c1 P20 (b := C) (x := X'') (y := Y'') (by simp), GR.c0 P20 (b := A) (x := X) (y := Y) (by simp), GR.c1 P20 (b := A) (x := X) (y := Y) (by simp), P20⟩
      clear hK K
      try simp only [Act.put, List.setIfInBounds_toArray, List.set_cons_zero, List.set_cons_succ]
      refine stepH 4 (by kernel_rfl) rfl (by rfl) (fun K hK => ?_)
      go_simp
      refine (c4.out _).mono ?_
      rintro e wq21 ⟨rfl, hq21⟩
      have E21 := GR.next E20 hq21
      have P21 := GR.tail E21
      refine hK.out _ _ ?_ (fun hHeld => ?_)
      · exact ⟨GR.c0 P21 (b := B) (x := X') (y := Y') (by simp), GR.c1 P21 (b := B) (x := X') (y := Y') (by simp), GR.c0 P21 (b := C) (x := X'') (y := Y'') (by simp), GR.c1 P21 (b := C) (x := X'') (y := Y'') (by simp), GR.c0 P21 (b := A) (x := X) (y := Y) (by simp), GR.c1 P21 (b := A) (x := X) (y := Y) (by simp), P21⟩
      clear hK K
      try simp only [Act.put, List.setIfInBounds_toArray, List.set_cons_zero, List.set_cons_succ]
      refine stepH 6 (by kernel_rfl) rfl (by rfl) (fun K hK => ?_)
      have d0 := (E21.1 _ (List.mem_cons_self ..)).cell 0 rfl
      have d1 := (E21.1 _ (List.mem_cons_self ..)).cell 1 rfl
      have f0 := (E21.1 _ (List.mem_cons_self ..)).free 0
      have f1 := (E21.1 _ (List.mem_cons_self ..)).free 1
      go_simp
      have HF : GR w _ ((_, t1, t2) :: [(DX, t1, t2), (C, X'', Y''), (B, X', Y'), (A, X, Y)]) := GR.put (x := t1) (y := t2) E21 F.1 F.2
      refine hK.out _ _ ?_ (fun hHeld => ?_)
      · first | exact ⟨GR.c0 (GR.tail HF) (b := B) (x := X') (y := Y') (by simp), GR.c1 (GR.tail HF) (b := B) (x := X') (y := Y') (by simp), GR.c0 (GR.tail HF) (b := C) (x := X'') (y := Y'') (by simp), GR.c1 (GR.tail HF) (b := C) (x := X'') (y := Y'') (by simp), GR.c0 (GR.tail HF) (b := A) (x := X) (y := Y) (by simp), GR.c1 (GR.tail HF) (b := A) (x := X) (y := Y) (by simp), (GR.tail HF)⟩ | exact ⟨GR.c0 (GR.alloc BS _) (b := B) (x := X') (y := Y') (by simp), GR.c1 (GR.alloc BS _) (b := B) (x := X') (y := Y') (by simp), GR.c0 (GR.alloc BS _) (b := C) (x := X'') (y := Y'') (by simp), GR.c1 (GR.alloc BS _) (b := C) (x := X'') (y := Y'') (by simp), GR.c0 (GR.alloc BS _) (b := A) (x := X) (y := Y) (by simp), GR.c1 (GR.alloc BS _) (b := A) (x := X) (y := Y) (by simp), (GR.alloc BS _)⟩
      clear hK K
      try simp only [Act.put, List.setIfInBounds_toArray, List.set_cons_zero, List.set_cons_succ]
      refine wpAnyH_done (by kernel_rfl) (NoPanic.normal ?_) _
      go_wp2_with fail
      go_meet
      first | exact ⟨_, rfl, HF⟩ | exact ⟨_, rfl, GR.new BS t1 t2⟩
  case' rest =>
    rename World => w3
    obtain ⟨DY, rfl, G3⟩ := hcut
    replace G3 := Lib.hid G3
    clear G2
  have ga0 := GR.c0 G3.out (b := A) (x := X) (y := Y) (by simp)
  have ga1 := GR.c1 G3.out (b := A) (x := X) (y := Y) (by simp)
  go_wp2_with fail
  refine (c5.out _).mono ?_
  rintro e w4 ⟨rfl, hb4⟩
  have G4 := Lib.hid (GR.next G3.out hb4)
  clear hb4 ga0 ga1 G3
  go_wp2_with fail
  refine (c6.out _).mono ?_
  rintro e w5 ⟨rfl, hb5⟩
  have G5 := Lib.hid (GR.new (GR.next G4.out hb5) 0 1)
  have BB := Lib.hid (GR.alloc (GR.next G4.out hb5) (.cells #[.int .u64 0, .int .u64 1] 38)).2
  clear hb5 G4
  go_wp2_with fail
  generalize w5.alloc (.cells #[.int .u64 0, .int .u64 1] 38) = w6 at G5 BB ⊢
  generalize w5.heap.size = DA at G5 ⊢
  refine (cF.out _ BB.out).mono ?_
  rintro e w7 ⟨hF, hb7⟩
  have G7 := Lib.hid (GR.next G5.out hb7)
  clear hb7 G5 BB
  rcases hF with ⟨q, fx, fy, hq0, hqS, hqv, rfl⟩ | rfl
  · have hz := zero_of hqv
    obtain ⟨fx0, fy0⟩ := pt_pos hqv
    have cI := Lib.hid (fun w => gIn fx fy fx0 fy0 q hqv hqS w)
    go_upto_region 6 with fail
    have G8 := Lib.hid (GR.new G7.out fx fy)
    generalize w7.alloc (.cells #[.int .u64 fx, .int .u64 fy] 38) = w8 at G8 ⊢
    generalize w7.heap.size = DF at G8 ⊢
    go_cut [17] (fun v wc => v = .bool true ∧ GR w wc [(DA, 0, 1), (DY, t1, t2), (DX, t1, t2), (C, X'', Y''), (B, X', Y'), (A, X, Y)])
    case first =>
      clear G7
      by_cases hx0 : fx = 0
      · have hy1 : fy ≠ 1 := fun h => hq0 (hz.2 ⟨hx0, h⟩)
        have hyb : (fy == 1) = false := beq_eq_false_iff_ne.2 hy1
        replace hy1 := Lib.hid hy1
        replace hq0 := Lib.hid hq0
        replace hqv := Lib.hid hqv
        clear hz
        subst hx0
        refine wp_region_noPanic ?_
        refine wp_region_held_drew (S := fun w' => w'.cell? ⟨DF, 0, none⟩ = some (.int .u64 (0)) ∧ w'.cell? ⟨DF, 1, none⟩ = some (.int .u64 (fy)) ∧ GR w w' [(DF, 0, fy), (DA, 0, 1), (DY, t1, t2), (DX, t1, t2), (C, X'', Y''), (B, X', Y'), (A, X, Y)]) (by kernel_rfl) ?_ (fun hHeld => ?_)
        · exact ⟨GR.c0 (GR.drew G8.out) (b := DF) (x := 0) (y := fy) (by simp), GR.c1 (GR.drew G8.out) (b := DF) (x := 0) (y := fy) (by simp), (GR.drew G8.out)⟩
        refine takeH 0 (fun _ _ _ _ _ h => h) (by kernel_rfl) hHeld rfl (by kernel_rfl) (by rfl) (v := ?_) ?_ ?_
        rotate_left
        ((intro wz hz; (try dsimp only at hz); go_simp) <;> with_reducible rfl)
        try simp only [Act.put, List.setIfInBounds_toArray, List.set_cons_zero, List.set_cons_succ]
        refine takeH 1 (fun _ _ _ _ _ h => h) (by kernel_rfl) hHeld rfl (by kernel_rfl) (by rfl) (v := ?_) ?_ ?_
        rotate_left
        ((intro wz hz; (try dsimp only at hz); go_simp) <;> with_reducible rfl)
        try simp only [Act.put, List.setIfInBounds_toArray, List.set_cons_zero, List.set_cons_succ]
        refine takeH 2 (fun _ _ _ _ _ h => h) (by kernel_rfl) hHeld rfl (by kernel_rfl) (by rfl) (v := ?_) ?_ ?_
        rotate_left
        ((intro wz hz; (try dsimp only at hz); go_simp) <;> with_reducible rfl)
        try simp only [Act.put, List.setIfInBounds_toArray, List.set_cons_zero, List.set_cons_succ]
        refine takeH 3 (fun _ _ _ _ _ h => h) (by kernel_rfl) hHeld rfl (by kernel_rfl) (by rfl) (v := ?_) ?_ ?_
        rotate_left
        ((intro wz hz; (try dsimp only at hz); go_simp) <;> with_reducible rfl)
        try simp only [Act.put, List.setIfInBounds_toArray, List.set_cons_zero, List.set_cons_succ]
        refine stepH 4 (by kernel_rfl) rfl (by rfl) (fun K hK => ?_)
        go_simp
        refine (cI.out _).mono ?_
        rintro e wqH6 ⟨rfl, hqH6⟩
        have H6 := GR.next hHeld.2.2 hqH6
        refine hK.out _ _ ?_ (fun hHeld => ?_)
        · exact ⟨GR.c0 H6 (b := DF) (x := 0) (y := fy) (by simp), GR.c1 H6 (b := DF) (x := 0) (y := fy) (by simp), H6⟩
        clear hK K
        try simp only [Act.put, List.setIfInBounds_toArray, List.set_cons_zero, List.set_cons_succ]
        refine takeH 5 (fun _ _ _ _ _ h => h) (by kernel_rfl) hHeld rfl (by kernel_rfl) (by rfl) (v := ?_) ?_ ?_
        rotate_left
        ((intro wz hz; (try dsimp only at hz); go_simp) <;> with_reducible rfl)
        try simp only [Act.put, List.setIfInBounds_toArray, List.set_cons_zero, List.set_cons_succ]
        refine takeH 6 (fun _ _ _ _ _ h => h) (by kernel_rfl) hHeld rfl (by kernel_rfl) (by rfl) (v := ?_) ?_ ?_
        rotate_left
        ((intro wz hz; (try dsimp only at hz); go_simp) <;> with_reducible rfl)
        try simp only [Act.put, List.setIfInBounds_toArray, List.set_cons_zero, List.set_cons_succ]
        refine stepH 7 (by kernel_rfl) rfl (by rfl) (fun K hK => ?_)
        go_simp
        refine (zero7 _).mono ?_
        rintro e wqH7 ⟨rfl, hqH7⟩
        have H7 := GR.next hHeld.2.2 hqH7
        refine hK.out _ _ ?_ (fun hHeld => ?_)
        · exact ⟨GR.c0 H7 (b := DF) (x := 0) (y := fy) (by simp), GR.c1 H7 (b := DF) (x := 0) (y := fy) (by simp), H7⟩
        clear hK K
        try simp only [Act.put, List.setIfInBounds_toArray, List.set_cons_zero, List.set_cons_succ]
        refine takeH 8 (fun _ _ _ _ _ h => h) (by kernel_rfl) hHeld rfl (by kernel_rfl) (by rfl) (v := ?_) ?_ ?_
        rotate_left
        ((intro wz hz; (try dsimp only at hz); go_simp) <;> with_reducible rfl)
        try simp only [Act.put, List.setIfInBounds_toArray, List.set_cons_zero, List.set_cons_succ]
        refine takeH 9 (fun _ _ _ _ _ h => h) (by kernel_rfl) hHeld rfl (by kernel_rfl) (by rfl) (v := ?_) ?_ ?_
        rotate_left
        ((intro wz hz; (try dsimp only at hz); go_simp) <;> with_reducible rfl)
        try simp only [Act.put, List.setIfInBounds_toArray, List.set_cons_zero, List.set_cons_succ]
        refine takeH 10 (fun _ _ _ _ _ h => h) (by kernel_rfl) hHeld rfl (by kernel_rfl) (by rfl) (v := ?_) ?_ ?_
        rotate_left
        ((intro wz hz; (try dsimp only at hz); go_simp) <;> with_reducible rfl)
        try simp only [Act.put, List.setIfInBounds_toArray, List.set_cons_zero, List.set_cons_succ]
        refine takeH 11 (fun _ _ _ _ _ h => h) (by kernel_rfl) hHeld rfl (by kernel_rfl) (by rfl) (v := ?_) ?_ ?_
        rotate_left
        ((intro wz hz; (try dsimp only at hz); go_simp) <;> with_reducible rfl)
        try simp only [Act.put, List.setIfInBounds_toArray, List.set_cons_zero, List.set_cons_succ]
        refine wpAnyH_done (by kernel_rfl) (NoPanic.normal ?_) _
        go_wp2_with fail
        go_meet
        exact ⟨rfl, GR.tail hHeld.2.2⟩
      · have hxb : (fx == 0) = false := beq_eq_false_iff_ne.2 hx0
        replace hx0 := Lib.hid hx0
        replace hq0 := Lib.hid hq0
        replace hqv := Lib.hid hqv
        clear hz
        refine wp_region_noPanic ?_
        refine wp_region_held_drew (S := fun w' => w'.cell? ⟨DF, 0, none⟩ = some (.int .u64 (fx)) ∧ w'.cell? ⟨DF, 1, none⟩ = some (.int .u64 (fy)) ∧ GR w w' [(DF, fx, fy), (DA, 0, 1), (DY, t1, t2), (DX, t1, t2), (C, X'', Y''), (B, X', Y'), (A, X, Y)]) (by kernel_rfl) ?_ (fun hHeld => ?_)
        · exact ⟨GR.c0 (GR.drew G8.out) (b := DF) (x := fx) (y := fy) (by simp), GR.c1 (GR.drew G8.out) (b := DF) (x := fx) (y := fy) (by simp), (GR.drew G8.out)⟩
        refine takeH 0 (fun _ _ _ _ _ h => h) (by kernel_rfl) hHeld rfl (by kernel_rfl) (by rfl) (v := ?_) ?_ ?_
        rotate_left
        ((intro wz hz; (try dsimp only at hz); go_simp) <;> with_reducible rfl)
        try simp only [Act.put, List.setIfInBounds_toArray, List.set_cons_zero, List.set_cons_succ]
        refine takeH 1 (fun _ _ _ _ _ h => h) (by kernel_rfl) hHeld rfl (by kernel_rfl) (by rfl) (v := ?_) ?_ ?_
        rotate_left
        ((intro wz hz; (try dsimp only at hz); go_simp) <;> with_reducible rfl)
        try simp only [Act.put, List.setIfInBounds_toArray, List.set_cons_zero, List.set_cons_succ]
        refine takeH 2 (fun _ _ _ _ _ h => h) (by kernel_rfl) hHeld rfl (by kernel_rfl) (by rfl) (v := ?_) ?_ ?_
        rotate_left
        ((intro wz hz; (try dsimp only at hz); go_simp) <;> with_reducible rfl)
        try simp only [Act.put, List.setIfInBounds_toArray, List.set_cons_zero, List.set_cons_succ]
        refine takeH 3 (fun _ _ _ _ _ h => h) (by kernel_rfl) hHeld rfl (by kernel_rfl) (by rfl) (v := ?_) ?_ ?_
        rotate_left
        ((intro wz hz; (try dsimp only at hz); go_simp) <;> with_reducible rfl)
        try simp only [Act.put, List.setIfInBounds_toArray, List.set_cons_zero, List.set_cons_succ]
        refine stepH 4 (by kernel_rfl) rfl (by rfl) (fun K hK => ?_)
        go_simp
        refine (cI.out _).mono ?_
        rintro e wqH6 ⟨rfl, hqH6⟩
        have H6 := GR.next hHeld.2.2 hqH6
        refine hK.out _ _ ?_ (fun hHeld => ?_)
        · exact ⟨GR.c0 H6 (b := DF) (x := fx) (y := fy) (by simp), GR.c1 H6 (b := DF) (x := fx) (y := fy) (by simp), H6⟩
        clear hK K
        try simp only [Act.put, List.setIfInBounds_toArray, List.set_cons_zero, List.set_cons_succ]
        refine takeH 5 (fun _ _ _ _ _ h => h) (by kernel_rfl) hHeld rfl (by kernel_rfl) (by rfl) (v := ?_) ?_ ?_
        rotate_left
        ((intro wz hz; (try dsimp only at hz); go_simp) <;> with_reducible rfl)
        try simp only [Act.put, List.setIfInBounds_toArray, List.set_cons_zero, List.set_cons_succ]
        refine takeH 6 (fun _ _ _ _ _ h => h) (by kernel_rfl) hHeld rfl (by kernel_rfl) (by rfl) (v := ?_) ?_ ?_
        rotate_left
        ((intro wz hz; (try dsimp only at hz); go_simp) <;> with_reducible rfl)
        try simp only [Act.put, List.setIfInBounds_toArray, List.set_cons_zero, List.set_cons_succ]
        refine stepH 7 (by kernel_rfl) rfl (by rfl) (fun K hK => ?_)
        go_simp
        refine (zero7 _).mono ?_
        rintro e wqH7 ⟨rfl, hqH7⟩
        have H7 := GR.next hHeld.2.2 hqH7
        refine hK.out _ _ ?_ (fun hHeld => ?_)
        · exact ⟨GR.c0 H7 (b := DF) (x := fx) (y := fy) (by simp), GR.c1 H7 (b := DF) (x := fx) (y := fy) (by simp), H7⟩
        clear hK K
        try simp only [Act.put, List.setIfInBounds_toArray, List.set_cons_zero, List.set_cons_succ]
        refine takeH 8 (fun _ _ _ _ _ h => h) (by kernel_rfl) hHeld rfl (by kernel_rfl) (by rfl) (v := ?_) ?_ ?_
        rotate_left
        ((intro wz hz; (try dsimp only at hz); go_simp) <;> with_reducible rfl)
        try simp only [Act.put, List.setIfInBounds_toArray, List.set_cons_zero, List.set_cons_succ]
        refine takeH 9 (fun _ _ _ _ _ h => h) (by kernel_rfl) hHeld rfl (by kernel_rfl) (by rfl) (v := ?_) ?_ ?_
        rotate_left
        ((intro wz hz; (try dsimp only at hz); go_simp) <;> with_reducible rfl)
        try simp only [Act.put, List.setIfInBounds_toArray, List.set_cons_zero, List.set_cons_succ]
        refine takeH 10 (fun _ _ _ _ _ h => h) (by kernel_rfl) hHeld rfl (by kernel_rfl) (by rfl) (v := ?_) ?_ ?_
        rotate_left
        ((intro wz hz; (try dsimp only at hz); go_simp) <;> with_reducible rfl)
        try simp only [Act.put, List.setIfInBounds_toArray, List.set_cons_zero, List.set_cons_succ]
        refine takeH 11 (fun _ _ _ _ _ h => h) (by kernel_rfl) hHeld rfl (by kernel_rfl) (by rfl) (v := ?_) ?_ ?_
        rotate_left
        ((intro wz hz; (try dsimp only at hz); go_simp) <;> with_reducible rfl)
        try simp only [Act.put, List.setIfInBounds_toArray, List.set_cons_zero, List.set_cons_succ]
        refine wpAnyH_done (by kernel_rfl) (NoPanic.normal ?_) _
        go_wp2_with fail
        go_meet
        exact ⟨rfl, GR.tail hHeld.2.2⟩
    case' rest =>
      rename World => w9
      obtain ⟨rfl, G9⟩ := hcut
      replace G9 := Lib.hid G9
      clear G7 G8 hz hq0 hqS hqv cI
      by_cases hkb : 4611686018427387904 < k
      · go_wp2_with fail
        refine wp_region_noPanic ?_
        refine wp_region_held_drew (S := fun w' => w'.cell? ⟨DX, 0, none⟩ = some (.int .u64 (t1)) ∧ w'.cell? ⟨DX, 1, none⟩ = some (.int .u64 (t2)) ∧ w'.cell? ⟨DY, 0, none⟩ = some (.int .u64 (t1)) ∧ w'.cell? ⟨DY, 1, none⟩ = some (.int .u64 (t2)) ∧ w'.cell? ⟨DA, 0, none⟩ = some (.int .u64 (0)) ∧ w'.cell? ⟨DA, 1, none⟩ = some (.int .u64 (1)) ∧ GR w w' [(DA, 0, 1), (DY, t1, t2), (DX, t1, t2), (C, X'', Y''), (B, X', Y'), (A, X, Y)]) (by kernel_rfl) ?_ (fun hHeld => ?_)
        · exact ⟨GR.c0 (GR.drew G9.out) (b := DX) (x := t1) (y := t2) (by simp), GR.c1 (GR.drew G9.out) (b := DX) (x := t1) (y := t2) (by simp), GR.c0 (GR.drew G9.out) (b := DY) (x := t1) (y := t2) (by simp), GR.c1 (GR.drew G9.out) (b := DY) (x := t1) (y := t2) (by simp), GR.c0 (GR.drew G9.out) (b := DA) (x := 0) (y := 1) (by simp), GR.c1 (GR.drew G9.out) (b := DA) (x := 0) (y := 1) (by simp), (GR.drew G9.out)⟩
        refine takeH 0 (fun _ _ _ _ _ h => h) (by kernel_rfl) hHeld rfl (by kernel_rfl) (by rfl) (v := ?_) ?_ ?_
        rotate_left
        ((intro wz hz; (try dsimp only at hz); go_simp) <;> with_reducible rfl)
        try simp only [Act.put, List.setIfInBounds_toArray, List.set_cons_zero, List.set_cons_succ]
        refine takeH 1 (fun _ _ _ _ _ h => h) (by kernel_rfl) hHeld rfl (by kernel_rfl) (by rfl) (v := ?_) ?_ ?_
        rotate_left
        ((intro wz hz; (try dsimp only at hz); go_simp) <;> with_reducible rfl)
        try simp only [Act.put, List.setIfInBounds_toArray, List.set_cons_zero, List.set_cons_succ]
        refine takeH 2 (fun _ _ _ _ _ h => h) (by kernel_rfl) hHeld rfl (by kernel_rfl) (by rfl) (v := ?_) ?_ ?_
        rotate_left
        ((intro wz hz; (try dsimp only at hz); go_simp) <;> with_reducible rfl)
        try simp only [Act.put, List.setIfInBounds_toArray, List.set_cons_zero, List.set_cons_succ]
        refine takeH 3 (fun _ _ _ _ _ h => h) (by kernel_rfl) hHeld rfl (by kernel_rfl) (by rfl) (v := ?_) ?_ ?_
        rotate_left
        ((intro wz hz; (try dsimp only at hz); go_simp) <;> with_reducible rfl)
        try simp only [Act.put, List.setIfInBounds_toArray, List.set_cons_zero, List.set_cons_succ]
        refine takeH 4 (fun _ _ _ _ _ h => h) (by kernel_rfl) hHeld rfl (by kernel_rfl) (by rfl) (v := ?_) ?_ ?_
        rotate_left
        ((intro wz hz; (try dsimp only at hz); go_simp) <;> with_reducible rfl)
        try simp only [Act.put, List.setIfInBounds_toArray, List.set_cons_zero, List.set_cons_succ]
        refine takeH 5 (fun _ _ _ _ _ h => h) (by kernel_rfl) hHeld rfl (by kernel_rfl) (by rfl) (v := ?_) ?_ ?_
        rotate_left
        ((intro wz hz; (try dsimp only at hz); go_simp) <;> with_reducible rfl)
        try simp only [Act.put, List.setIfInBounds_toArray, List.set_cons_zero, List.set_cons_succ]
        refine takeH 6 (fun _ _ _ _ _ h => h) (by kernel_rfl) hHeld rfl (by kernel_rfl) (by rfl) (v := ?_) ?_ ?_
        rotate_left
        ((intro wz hz; (try dsimp only at hz); go_simp) <;> with_reducible rfl)
        try simp only [Act.put, List.setIfInBounds_toArray, List.set_cons_zero, List.set_cons_succ]
        refine takeH 7 (fun _ _ _ _ _ h => h) (by kernel_rfl) hHeld rfl (by kernel_rfl) (by rfl) (v := ?_) ?_ ?_
        rotate_left
        ((intro wz hz; (try dsimp only at hz); go_simp) <;> with_reducible rfl)
        try simp only [Act.put, List.setIfInBounds_toArray, List.set_cons_zero, List.set_cons_succ]
        refine stepH 8 (by kernel_rfl) rfl (by rfl) (fun K hK => ?_)
        go_simp
        refine (zero7 _).mono ?_
        rintro e wqH8 ⟨rfl, hqH8⟩
        have H8 := GR.next hHeld.2.2.2.2.2.2 hqH8
        refine hK.out _ _ ?_ (fun hHeld => ?_)
        · exact ⟨GR.c0 H8 (b := DX) (x := t1) (y := t2) (by simp), GR.c1 H8 (b := DX) (x := t1) (y := t2) (by simp), GR.c0 H8 (b := DY) (x := t1) (y := t2) (by simp), GR.c1 H8 (b := DY) (x := t1) (y := t2) (by simp), GR.c0 H8 (b := DA) (x := 0) (y := 1) (by simp), GR.c1 H8 (b := DA) (x := 0) (y := 1) (by simp), H8⟩
        clear hK K
        try simp only [Act.put, List.setIfInBounds_toArray, List.set_cons_zero, List.set_cons_succ]
        refine takeH 9 (fun _ _ _ _ _ h => h) (by kernel_rfl) hHeld rfl (by kernel_rfl) (by rfl) (v := ?_) ?_ ?_
        rotate_left
        ((intro wz hz; (try dsimp only at hz); go_simp) <;> with_reducible rfl)
        try simp only [Act.put, List.setIfInBounds_toArray, List.set_cons_zero, List.set_cons_succ]
        refine takeH 10 (fun _ _ _ _ _ h => h) (by kernel_rfl) hHeld rfl (by kernel_rfl) (by rfl) (v := ?_) ?_ ?_
        rotate_left
        ((intro wz hz; (try dsimp only at hz); go_simp) <;> with_reducible rfl)
        try simp only [Act.put, List.setIfInBounds_toArray, List.set_cons_zero, List.set_cons_succ]
        refine takeH 11 (fun _ _ _ _ _ h => h) (by kernel_rfl) hHeld rfl (by kernel_rfl) (by rfl) (v := ?_) ?_ ?_
        rotate_left
        ((intro wz hz; (try dsimp only at hz); go_simp) <;> with_reducible rfl)
        try simp only [Act.put, List.setIfInBounds_toArray, List.set_cons_zero, List.set_cons_succ]
        refine takeH 12 (fun _ _ _ _ _ h => h) (by kernel_rfl) hHeld rfl (by kernel_rfl) (by rfl) (v := ?_) ?_ ?_
        rotate_left
        ((intro wz hz; (try dsimp only at hz); go_simp) <;> with_reducible rfl)
        try simp only [Act.put, List.setIfInBounds_toArray, List.set_cons_zero, List.set_cons_succ]
        refine takeH 13 (fun _ _ _ _ _ h => h) (by kernel_rfl) hHeld rfl (by kernel_rfl) (by rfl) (v := ?_) ?_ ?_
        rotate_left
        ((intro wz hz; (try dsimp only at hz); go_simp) <;> with_reducible rfl)
        try simp only [Act.put, List.setIfInBounds_toArray, List.set_cons_zero, List.set_cons_succ]
        refine takeH 14 (fun _ _ _ _ _ h => h) (by kernel_rfl) hHeld rfl (by kernel_rfl) (by rfl) (v := ?_) ?_ ?_
        rotate_left
        ((intro wz hz; (try dsimp only at hz); go_simp) <;> with_reducible rfl)
        try simp only [Act.put, List.setIfInBounds_toArray, List.set_cons_zero, List.set_cons_succ]
        refine wpAnyH_done (by kernel_rfl) (NoPanic.normal ?_) _
        go_wp2
        go_ret
        exact ⟨rfl, (hHeld.2.2.2.2.2.2).2⟩
      · by_cases hnb : 4611686018427387904 < n
        · go_wp2_with fail
          refine wp_region_noPanic ?_
          refine wp_region_held_drew (S := fun w' => w'.cell? ⟨DX, 0, none⟩ = some (.int .u64 (t1)) ∧ w'.cell? ⟨DX, 1, none⟩ = some (.int .u64 (t2)) ∧ w'.cell? ⟨DY, 0, none⟩ = some (.int .u64 (t1)) ∧ w'.cell? ⟨DY, 1, none⟩ = some (.int .u64 (t2)) ∧ w'.cell? ⟨DA, 0, none⟩ = some (.int .u64 (0)) ∧ w'.cell? ⟨DA, 1, none⟩ = some (.int .u64 (1)) ∧ GR w w' [(DA, 0, 1), (DY, t1, t2), (DX, t1, t2), (C, X'', Y''), (B, X', Y'), (A, X, Y)]) (by kernel_rfl) ?_ (fun hHeld => ?_)
          · exact ⟨GR.c0 (GR.drew G9.out) (b := DX) (x := t1) (y := t2) (by simp), GR.c1 (GR.drew G9.out) (b := DX) (x := t1) (y := t2) (by simp), GR.c0 (GR.drew G9.out) (b := DY) (x := t1) (y := t2) (by simp), GR.c1 (GR.drew G9.out) (b := DY) (x := t1) (y := t2) (by simp), GR.c0 (GR.drew G9.out) (b := DA) (x := 0) (y := 1) (by simp), GR.c1 (GR.drew G9.out) (b := DA) (x := 0) (y := 1) (by simp), (GR.drew G9.out)⟩
          refine takeH 0 (fun _ _ _ _ _ h => h) (by kernel_rfl) hHeld rfl (by kernel_rfl) (by rfl) (v := ?_) ?_ ?_
          rotate_left
          ((intro wz hz; (try dsimp only at hz); go_simp) <;> with_reducible rfl)
          try simp only [Act.put, List.setIfInBounds_toArray, List.set_cons_zero, List.set_cons_succ]
          refine takeH 1 (fun _ _ _ _ _ h => h) (by kernel_rfl) hHeld rfl (by kernel_rfl) (by rfl) (v := ?_) ?_ ?_
          rotate_left
          ((intro wz hz; (try dsimp only at hz); go_simp) <;> with_reducible rfl)
          try simp only [Act.put, List.setIfInBounds_toArray, List.set_cons_zero, List.set_cons_succ]
          refine takeH 2 (fun _ _ _ _ _ h => h) (by kernel_rfl) hHeld rfl (by kernel_rfl) (by rfl) (v := ?_) ?_ ?_
          rotate_left
          ((intro wz hz; (try dsimp only at hz); go_simp) <;> with_reducible rfl)
          try simp only [Act.put, List.setIfInBounds_toArray, List.set_cons_zero, List.set_cons_succ]
          refine takeH 3 (fun _ _ _ _ _ h => h) (by kernel_rfl) hHeld rfl (by kernel_rfl) (by rfl) (v := ?_) ?_ ?_
          rotate_left
          ((intro wz hz; (try dsimp only at hz); go_simp) <;> with_reducible rfl)
          try simp only [Act.put, List.setIfInBounds_toArray, List.set_cons_zero, List.set_cons_succ]
          refine takeH 4 (fun _ _ _ _ _ h => h) (by kernel_rfl) hHeld rfl (by kernel_rfl) (by rfl) (v := ?_) ?_ ?_
          rotate_left
          ((intro wz hz; (try dsimp only at hz); go_simp) <;> with_reducible rfl)
          try simp only [Act.put, List.setIfInBounds_toArray, List.set_cons_zero, List.set_cons_succ]
          refine takeH 5 (fun _ _ _ _ _ h => h) (by kernel_rfl) hHeld rfl (by kernel_rfl) (by rfl) (v := ?_) ?_ ?_
          rotate_left
          ((intro wz hz; (try dsimp only at hz); go_simp) <;> with_reducible rfl)
          try simp only [Act.put, List.setIfInBounds_toArray, List.set_cons_zero, List.set_cons_succ]
          refine takeH 6 (fun _ _ _ _ _ h => h) (by kernel_rfl) hHeld rfl (by kernel_rfl) (by rfl) (v := ?_) ?_ ?_
          rotate_left
          ((intro wz hz; (try dsimp only at hz); go_simp) <;> with_reducible rfl)
          try simp only [Act.put, List.setIfInBounds_toArray, List.set_cons_zero, List.set_cons_succ]
          refine takeH 7 (fun _ _ _ _ _ h => h) (by kernel_rfl) hHeld rfl (by kernel_rfl) (by rfl) (v := ?_) ?_ ?_
          rotate_left
          ((intro wz hz; (try dsimp only at hz); go_simp) <;> with_reducible rfl)
          try simp only [Act.put, List.setIfInBounds_toArray, List.set_cons_zero, List.set_cons_succ]
          refine stepH 8 (by kernel_rfl) rfl (by rfl) (fun K hK => ?_)
          go_simp
          refine (zero7 _).mono ?_
          rintro e wqH8 ⟨rfl, hqH8⟩
          have H8 := GR.next hHeld.2.2.2.2.2.2 hqH8
          refine hK.out _ _ ?_ (fun hHeld => ?_)
          · exact ⟨GR.c0 H8 (b := DX) (x := t1) (y := t2) (by simp), GR.c1 H8 (b := DX) (x := t1) (y := t2) (by simp), GR.c0 H8 (b := DY) (x := t1) (y := t2) (by simp), GR.c1 H8 (b := DY) (x := t1) (y := t2) (by simp), GR.c0 H8 (b := DA) (x := 0) (y := 1) (by simp), GR.c1 H8 (b := DA) (x := 0) (y := 1) (by simp), H8⟩
          clear hK K
          try simp only [Act.put, List.setIfInBounds_toArray, List.set_cons_zero, List.set_cons_succ]
          refine takeH 9 (fun _ _ _ _ _ h => h) (by kernel_rfl) hHeld rfl (by kernel_rfl) (by rfl) (v := ?_) ?_ ?_
          rotate_left
          ((intro wz hz; (try dsimp only at hz); go_simp) <;> with_reducible rfl)
          try simp only [Act.put, List.setIfInBounds_toArray, List.set_cons_zero, List.set_cons_succ]
          refine takeH 10 (fun _ _ _ _ _ h => h) (by kernel_rfl) hHeld rfl (by kernel_rfl) (by rfl) (v := ?_) ?_ ?_
          rotate_left
          ((intro wz hz; (try dsimp only at hz); go_simp) <;> with_reducible rfl)
          try simp only [Act.put, List.setIfInBounds_toArray, List.set_cons_zero, List.set_cons_succ]
          refine takeH 11 (fun _ _ _ _ _ h => h) (by kernel_rfl) hHeld rfl (by kernel_rfl) (by rfl) (v := ?_) ?_ ?_
          rotate_left
          ((intro wz hz; (try dsimp only at hz); go_simp) <;> with_reducible rfl)
          try simp only [Act.put, List.setIfInBounds_toArray, List.set_cons_zero, List.set_cons_succ]
          refine takeH 12 (fun _ _ _ _ _ h => h) (by kernel_rfl) hHeld rfl (by kernel_rfl) (by rfl) (v := ?_) ?_ ?_
          rotate_left
          ((intro wz hz; (try dsimp only at hz); go_simp) <;> with_reducible rfl)
          try simp only [Act.put, List.setIfInBounds_toArray, List.set_cons_zero, List.set_cons_succ]
          refine takeH 13 (fun _ _ _ _ _ h => h) (by kernel_rfl) hHeld rfl (by kernel_rfl) (by rfl) (v := ?_) ?_ ?_
          rotate_left
          ((intro wz hz; (try dsimp only at hz); go_simp) <;> with_reducible rfl)
          try simp only [Act.put, List.setIfInBounds_toArray, List.set_cons_zero, List.set_cons_succ]
          refine takeH 14 (fun _ _ _ _ _ h => h) (by kernel_rfl) hHeld rfl (by kernel_rfl) (by rfl) (v := ?_) ?_ ?_
          rotate_left
          ((intro wz hz; (try dsimp only at hz); go_simp) <;> with_reducible rfl)
          try simp only [Act.put, List.setIfInBounds_toArray, List.set_cons_zero, List.set_cons_succ]
          refine wpAnyH_done (by kernel_rfl) (NoPanic.normal ?_) _
          go_wp2
          go_ret
          exact ⟨rfl, (hHeld.2.2.2.2.2.2).2⟩
        · have hsum : k + n ≤ 18446744073709551615 := by omega
          have hwr : IntKind.u64.wrap (k + n) = k + n := by rw [IntKind.wrap_u64]; omega
          go_upto_region 9 with fail
          go_cut [18] (fun v wc => ∃ D, v = .pointer (some ⟨D, 0, none⟩) ∧ GR w wc ((D, z1, z2) :: [(DA, 0, 1), (DY, t1, t2), (DX, t1, t2), (C, X'', Y''), (B, X', Y'), (A, X, Y)]))
          case first =>
            refine wp_region_noPanic ?_
            refine wp_region_held_drew (S := fun w' => w'.cell? ⟨A, 0, none⟩ = some (.int .u64 (X)) ∧ w'.cell? ⟨A, 1, none⟩ = some (.int .u64 (Y)) ∧ GR w w' [(DA, 0, 1), (DY, t1, t2), (DX, t1, t2), (C, X'', Y''), (B, X', Y'), (A, X, Y)]) (by kernel_rfl) ?_ (fun hHeld => ?_)
            · exact ⟨GR.c0 (GR.drew G9.out) (b := A) (x := X) (y := Y) (by simp), GR.c1 (GR.drew G9.out) (b := A) (x := X) (y := Y) (by simp), (GR.drew G9.out)⟩
            have P0 := GR.drew G9.out
            refine takeH 0 (fun _ _ _ _ _ h => h) (by kernel_rfl) hHeld rfl (by kernel_rfl) (by rfl) (v := ?_) ?_ ?_
            rotate_left
            ((intro wz hz; (try dsimp only at hz); go_simp) <;> with_reducible rfl)
            try simp only [Act.put, List.setIfInBounds_toArray, List.set_cons_zero, List.set_cons_succ]
            refine takeH 1 (fun _ _ _ _ _ h => h) (by kernel_rfl) hHeld rfl (by kernel_rfl) (by rfl) (v := ?_) ?_ ?_
            rotate_left
            ((intro wz hz; (try dsimp only at hz); go_simp) <;> with_reducible rfl)
            try simp only [Act.put, List.setIfInBounds_toArray, List.set_cons_zero, List.set_cons_succ]
            refine takeH 3 (fun _ _ _ _ _ h => h) (by kernel_rfl) hHeld rfl (by kernel_rfl) (by rfl) (v := ?_) ?_ ?_
            rotate_left
            ((intro wz hz; (try dsimp only at hz); go_simp) <;> with_reducible rfl)
            try simp only [Act.put, List.setIfInBounds_toArray, List.set_cons_zero, List.set_cons_succ]
            refine takeH 4 (fun _ _ _ _ _ h => h) (by kernel_rfl) hHeld rfl (by kernel_rfl) (by rfl) (v := ?_) ?_ ?_
            rotate_left
            ((intro wz hz; (try dsimp only at hz); go_simp) <;> with_reducible rfl)
            try simp only [Act.put, List.setIfInBounds_toArray, List.set_cons_zero, List.set_cons_succ]
            refine wpAnyH_ready (rs := [2, 7]) (by kernel_rfl) (by simp) ?_
            refine AllReadyH.cons (i := 2) (by rw [List.getElem?_toArray]; exact rfl) (fun K hK => ?_) (AllReadyH.cons (i := 7) (by rw [List.getElem?_toArray]; exact rfl) (fun K hK => ?_) AllReadyH.nil)
            · go_simp
              refine (c9.out _).mono ?_
              rintro e wq23 ⟨rfl, hq23⟩
              have P23 := GR.next P0 hq23
              refine hK.out _ _ ?_ (fun hHeld => ?_)
              · exact ⟨GR.c0 P23 (b := A) (x := X) (y := Y) (by simp), GR.c1 P23 (b := A) (x := X) (y := Y) (by simp), P23⟩
              clear hK K
              try simp only [Act.put, List.setIfInBounds_toArray, List.set_cons_zero, List.set_cons_succ]
              refine wpAnyH_ready (rs := [5, 7]) (by kernel_rfl) (by simp) ?_
              refine AllReadyH.cons (i := 5) (by rw [List.getElem?_toArray]; exact rfl) (fun K hK => ?_) (AllReadyH.cons (i := 7) (by rw [List.getElem?_toArray]; exact rfl) (fun K hK => ?_) AllReadyH.nil)
              · go_simp
                refine (c10.out _).mono ?_
                rintro e wq24 ⟨rfl, hq24⟩
                have P24 := GR.next P23 hq24
                refine hK.out _ _ ?_ (fun hHeld => ?_)
                · exact ⟨GR.c0 P24 (b := A) (x := X) (y := Y) (by simp), GR.c1 P24 (b := A) (x := X) (y := Y) (by simp), P24⟩
                clear hK K
                try simp only [Act.put, List.setIfInBounds_toArray, List.set_cons_zero, List.set_cons_succ]
                refine wpAnyH_ready (rs := [6, 7]) (by kernel_rfl) (by simp) ?_
                refine AllReadyH.cons (i := 6) (by rw [List.getElem?_toArray]; exact rfl) (fun K hK => ?_) (AllReadyH.cons (i := 7) (by rw [List.getElem?_toArray]; exact rfl) (fun K hK => ?_) AllReadyH.nil)
                · go_simp
                  refine (c11.out _).mono ?_
                  rintro e wq25 ⟨rfl, hq25⟩
                  have P25 := GR.next P24 hq25
                  refine hK.out _ _ ?_ (fun hHeld => ?_)
                  · exact ⟨GR.c0 P25 (b := A) (x := X) (y := Y) (by simp), GR.c1 P25 (b := A) (x := X) (y := Y) (by simp), P25⟩
                  clear hK K
                  try simp only [Act.put, List.setIfInBounds_toArray, List.set_cons_zero, List.set_cons_succ]
                  refine stepH 7 (by kernel_rfl) rfl (by rfl) (fun K hK => ?_)
                  go_simp
                  have E26 := GR.new P25 0 0
                  have F := GR.far P25
                  try (rw [show ∀ W : World, W.drew.heap.size = W.heap.size from fun _ => rfl] at E26 F)
                  have P26 := GR.tail E26
                  refine hK.out _ _ ?_ (fun hHeld => ?_)
                  · exact ⟨GR.c0 P26 (b := A) (x := X) (y := Y) (by simp), GR.c1 P26 (b := A) (x := X) (y := Y) (by simp), P26⟩
                  clear hK K
                  have BS := P25
                  try simp only [Act.put, List.setIfInBounds_toArray, List.set_cons_zero, List.set_cons_succ]
                  refine stepH 8 (by kernel_rfl) rfl (by rfl) (fun K hK => ?_)
                  have d0 := (E26.1 _ (List.mem_cons_self ..)).cell 0 rfl
                  have d1 := (E26.1 _ (List.mem_cons_self ..)).cell 1 rfl
                  have f0 := (E26.1 _ (List.mem_cons_self ..)).free 0
                  have f1 := (E26.1 _ (List.mem_cons_self ..)).free 1
                  go_simp
                  have HF : GR w _ ((_, z1, z2) :: [(DA, 0, 1), (DY, t1, t2), (DX, t1, t2), (C, X'', Y''), (B, X', Y'), (A, X, Y)]) := GR.put (x := z1) (y := z2) E26 F.1 F.2
                  refine hK.out _ _ ?_ (fun hHeld => ?_)
                  · first | exact ⟨GR.c0 (GR.tail HF) (b := A) (x := X) (y := Y) (by simp), GR.c1 (GR.tail HF) (b := A) (x := X) (y := Y) (by simp), (GR.tail HF)⟩ | exact ⟨GR.c0 (GR.alloc BS _) (b := A) (x := X) (y := Y) (by simp), GR.c1 (GR.alloc BS _) (b := A) (x := X) (y := Y) (by simp), (GR.alloc BS _)⟩
                  clear hK K
                  try simp only [Act.put, List.setIfInBounds_toArray, List.set_cons_zero, List.set_cons_succ]
                  refine wpAnyH_done (by kernel_rfl) (NoPanic.normal ?_) _
                  go_wp2_with fail
                  go_meet
                  first | exact ⟨_, rfl, HF⟩ | exact ⟨_, rfl, GR.new BS z1 z2⟩
                · go_simp
                  have E28 := GR.new P24 0 0
                  have F := GR.far P24
                  try (rw [show ∀ W : World, W.drew.heap.size = W.heap.size from fun _ => rfl] at E28 F)
                  have P28 := GR.tail E28
                  refine hK.out _ _ ?_ (fun hHeld => ?_)
                  · exact ⟨GR.c0 P28 (b := A) (x := X) (y := Y) (by simp), GR.c1 P28 (b := A) (x := X) (y := Y) (by simp), P28⟩
                  clear hK K
                  have BS := P24
                  try simp only [Act.put, List.setIfInBounds_toArray, List.set_cons_zero, List.set_cons_succ]
                  refine stepH 6 (by kernel_rfl) rfl (by rfl) (fun K hK => ?_)
                  go_simp
                  refine (c11.out _).mono ?_
                  rintro e wq29 ⟨rfl, hq29⟩
                  have E29 := GR.next E28 hq29
                  have P29 := GR.tail E29
                  refine hK.out _ _ ?_ (fun hHeld => ?_)
                  · exact ⟨GR.c0 P29 (b := A) (x := X) (y := Y) (by simp), GR.c1 P29 (b := A) (x := X) (y := Y) (by simp), P29⟩
                  clear hK K
                  try simp only [Act.put, List.setIfInBounds_toArray, List.set_cons_zero, List.set_cons_succ]
                  refine stepH 8 (by kernel_rfl) rfl (by rfl) (fun K hK => ?_)
                  have d0 := (E29.1 _ (List.mem_cons_self ..)).cell 0 rfl
                  have d1 := (E29.1 _ (List.mem_cons_self ..)).cell 1 rfl
                  have f0 := (E29.1 _ (List.mem_cons_self ..)).free 0
                  have f1 := (E29.1 _ (List.mem_cons_self ..)).free 1
                  go_simp
                  have HF : GR w _ ((_, z1, z2) :: [(DA, 0, 1), (DY, t1, t2), (DX, t1, t2), (C, X'', Y''), (B, X', Y'), (A, X, Y)]) := GR.put (x := z1) (y := z2) E29 F.1 F.2
                  refine hK.out _ _ ?_ (fun hHeld => ?_)
                  · first | exact ⟨GR.c0 (GR.tail HF) (b := A) (x := X) (y := Y) (by simp), GR.c1 (GR.tail HF) (b := A) (x := X) (y := Y) (by simp), (GR.tail HF)⟩ | exact ⟨GR.c0 (GR.alloc BS _) (b := A) (x := X) (y := Y) (by simp), GR.c1 (GR.alloc BS _) (b := A) (x := X) (y := Y) (by simp), (GR.alloc BS _)⟩
                  clear hK K
                  try simp only [Act.put, List.setIfInBounds_toArray, List.set_cons_zero, List.set_cons_succ]
                  refine wpAnyH_done (by kernel_rfl) (NoPanic.normal ?_) _
                  go_wp2_with fail
                  go_meet
                  first | exact ⟨_, rfl, HF⟩ | exact ⟨_, rfl, GR.new BS z1 z2⟩
              · go_simp
                have E31 := GR.new P23 0 0
                have F := GR.far P23
                try (rw [show ∀ W : World, W.drew.heap.size = W.heap.size from fun _ => rfl] at E31 F)
                have P31 := GR.tail E31
                refine hK.out _ _ ?_ (fun hHeld => ?_)
                · exact ⟨GR.c0 P31 (b := A) (x := X) (y := Y) (by simp), GR.c1 P31 (b := A) (x := X) (y := Y) (by simp), P31⟩
                clear hK K
                have BS := P23
                try simp only [Act.put, List.setIfInBounds_toArray, List.set_cons_zero, List.set_cons_succ]
                refine stepH 5 (by kernel_rfl) rfl (by rfl) (fun K hK => ?_)
                go_simp
                refine (c10.out _).mono ?_
                rintro e wq32 ⟨rfl, hq32⟩
                have E32 := GR.next E31 hq32
                have P32 := GR.tail E32
                refine hK.out _ _ ?_ (fun hHeld => ?_)
                · exact ⟨GR.c0 P32 (b := A) (x := X) (y := Y) (by simp), GR.c1 P32 (b := A) (x := X) (y := Y) (by simp), P32⟩
                clear hK K
                try simp only [Act.put, List.setIfInBounds_toArray, List.set_cons_zero, List.set_cons_succ]
                refine stepH 6 (by kernel_rfl) rfl (by rfl) (fun K hK => ?_)
                go_simp
                refine (c11.out _).mono ?_
                rintro e wq33 ⟨rfl, hq33⟩
                have E33 := GR.next E32 hq33
                have P33 := GR.tail E33
                refine hK.out _ _ ?_ (fun hHeld => ?_)
                · exact ⟨GR.c0 P33 (b := A) (x := X) (y := Y) (by simp), GR.c1 P33 (b := A) (x := X) (y := Y) (by simp), P33⟩
                clear hK K
                try simp only [Act.put, List.setIfInBounds_toArray, List.set_cons_zero, List.set_cons_succ]
                refine stepH 8 (by kernel_rfl) rfl (by rfl) (fun K hK => ?_)
                have d0 := (E33.1 _ (List.mem_cons_self ..)).cell 0 rfl
                have d1 := (E33.1 _ (List.mem_cons_self ..)).cell 1 rfl
                have f0 := (E33.1 _ (List.mem_cons_self ..)).free 0
                have f1 := (E33.1 _ (List.mem_cons_self ..)).free 1
                go_simp
                have HF : GR w _ ((_, z1, z2) :: [(DA, 0, 1), (DY, t1, t2), (DX, t1, t2), (C, X'', Y''), (B, X', Y'), (A, X, Y)]) := GR.put (x := z1) (y := z2) E33 F.1 F.2
                refine hK.out _ _ ?_ (fun hHeld => ?_)
                · first | exact ⟨GR.c0 (GR.tail HF) (b := A) (x := X) (y := Y) (by simp), GR.c1 (GR.tail HF) (b := A) (x := X) (y := Y) (by simp), (GR.tail HF)⟩ | exact ⟨GR.c0 (GR.alloc BS _) (b := A) (x := X) (y := Y) (by simp), GR.c1 (GR.alloc BS _) (b := A) (x := X) (y := Y) (by simp), (GR.alloc BS _)⟩
                clear hK K
                try simp only [Act.put, List.setIfInBounds_toArray, List.set_cons_zero, List.set_cons_succ]
                refine wpAnyH_done (by kernel_rfl) (NoPanic.normal ?_) _
                go_wp2_with fail
                go_meet
                first | exact ⟨_, rfl, HF⟩ | exact ⟨_, rfl, GR.new BS z1 z2⟩
            · go_simp
              have E35 := GR.new P0 0 0
              have F := GR.far P0
              try (rw [show ∀ W : World, W.drew.heap.size = W.heap.size from fun _ => rfl] at E35 F)
              have P35 := GR.tail E35
              refine hK.out _ _ ?_ (fun hHeld => ?_)
              · exact ⟨GR.c0 P35 (b := A) (x := X) (y := Y) (by simp), GR.c1 P35 (b := A) (x := X) (y := Y) (by simp), P35⟩
              clear hK K
              have BS := P0
              try simp only [Act.put, List.setIfInBounds_toArray, List.set_cons_zero, List.set_cons_succ]
              refine stepH 2 (by kernel_rfl) rfl (by rfl) (fun K hK => ?_)
              go_simp
              refine (c9.out _).mono ?_
              rintro e wq36 ⟨rfl, hq36⟩
              have E36 := GR.next E35 hq36
              have P36 := GR.tail E36
              refine hK.out _ _ ?_ (fun hHeld => ?_)
              · exact ⟨GR.c0 P36 (b := A) (x := X) (y := Y) (by simp), GR.c1 P36 (b := A) (x := X) (y := Y) (by simp), P36⟩
              clear hK K
              try simp only [Act.put, List.setIfInBounds_toArray, List.set_cons_zero, List.set_cons_succ]
              refine stepH 5 (by kernel_rfl) rfl (by rfl) (fun K hK => ?_)
              go_simp
              refine (c10.out _).mono ?_
              rintro e wq37 ⟨rfl, hq37⟩
              have E37 := GR.next E36 hq37
              have P37 := GR.tail E37
              refine hK.out _ _ ?_ (fun hHeld => ?_)
              · exact ⟨GR.c0 P37 (b := A) (x := X) (y := Y) (by simp), GR.c1 P37 (b := A) (x := X) (y := Y) (by simp), P37⟩
              clear hK K
              try simp only [Act.put, List.setIfInBounds_toArray, List.set_cons_zero, List.set_cons_succ]
              refine stepH 6 (by kernel_rfl) rfl (by rfl) (fun K hK => ?_)
              go_simp
              refine (c11.out _).mono ?_
              rintro e wq38 ⟨rfl, hq38⟩
              have E38 := GR.next E37 hq38
              have P38 := GR.tail E38
              refine hK.out _ _ ?_ (fun hHeld => ?_)
              · exact ⟨GR.c0 P38 (b := A) (x := X) (y := Y) (by simp), GR.c1 P38 (b := A) (x := X) (y := Y) (by simp), P38⟩
              clear hK K
              try simp only [Act.put, List.setIfInBounds_toArray, List.set_cons_zero, List.set_cons_succ]
              refine stepH 8 (by kernel_rfl) rfl (by rfl) (fun K hK => ?_)
              have d0 := (E38.1 _ (List.mem_cons_self ..)).cell 0 rfl
              have d1 := (E38.1 _ (List.mem_cons_self ..)).cell 1 rfl
              have f0 := (E38.1 _ (List.mem_cons_self ..)).free 0
              have f1 := (E38.1 _ (List.mem_cons_self ..)).free 1
              go_simp
              have HF : GR w _ ((_, z1, z2) :: [(DA, 0, 1), (DY, t1, t2), (DX, t1, t2), (C, X'', Y''), (B, X', Y'), (A, X, Y)]) := GR.put (x := z1) (y := z2) E38 F.1 F.2
              refine hK.out _ _ ?_ (fun hHeld => ?_)
              · first | exact ⟨GR.c0 (GR.tail HF) (b := A) (x := X) (y := Y) (by simp), GR.c1 (GR.tail HF) (b := A) (x := X) (y := Y) (by simp), (GR.tail HF)⟩ | exact ⟨GR.c0 (GR.alloc BS _) (b := A) (x := X) (y := Y) (by simp), GR.c1 (GR.alloc BS _) (b := A) (x := X) (y := Y) (by simp), (GR.alloc BS _)⟩
              clear hK K
              try simp only [Act.put, List.setIfInBounds_toArray, List.set_cons_zero, List.set_cons_succ]
              refine wpAnyH_done (by kernel_rfl) (NoPanic.normal ?_) _
              go_wp2_with fail
              go_meet
              first | exact ⟨_, rfl, HF⟩ | exact ⟨_, rfl, GR.new BS z1 z2⟩
          case' rest =>
            rename World => w10
            obtain ⟨DS, rfl, G10⟩ := hcut
            replace G10 := Lib.hid G10
            clear G9
          go_wp2_with fail
          refine wp_region_noPanic ?_
          refine wp_region_held_drew (S := fun w' => w'.cell? ⟨DX, 0, none⟩ = some (.int .u64 (t1)) ∧ w'.cell? ⟨DX, 1, none⟩ = some (.int .u64 (t2)) ∧ w'.cell? ⟨DY, 0, none⟩ = some (.int .u64 (t1)) ∧ w'.cell? ⟨DY, 1, none⟩ = some (.int .u64 (t2)) ∧ w'.cell? ⟨DA, 0, none⟩ = some (.int .u64 (0)) ∧ w'.cell? ⟨DA, 1, none⟩ = some (.int .u64 (1)) ∧ w'.cell? ⟨DS, 0, none⟩ = some (.int .u64 (z1)) ∧ w'.cell? ⟨DS, 1, none⟩ = some (.int .u64 (z2)) ∧ w'.cell? ⟨A, 0, none⟩ = some (.int .u64 (X)) ∧ w'.cell? ⟨A, 1, none⟩ = some (.int .u64 (Y)) ∧ GR w w' [(DS, z1, z2), (DA, 0, 1), (DY, t1, t2), (DX, t1, t2), (C, X'', Y''), (B, X', Y'), (A, X, Y)]) (by kernel_rfl) ?_ (fun hHeld => ?_)
          · exact ⟨GR.c0 (GR.drew G10.out) (b := DX) (x := t1) (y := t2) (by simp), GR.c1 (GR.drew G10.out) (b := DX) (x := t1) (y := t2) (by simp), GR.c0 (GR.drew G10.out) (b := DY) (x := t1) (y := t2) (by simp), GR.c1 (GR.drew G10.out) (b := DY) (x := t1) (y := t2) (by simp), GR.c0 (GR.drew G10.out) (b := DA) (x := 0) (y := 1) (by simp), GR.c1 (GR.drew G10.out) (b := DA) (x := 0) (y := 1) (by simp), GR.c0 (GR.drew G10.out) (b := DS) (x := z1) (y := z2) (by simp), GR.c1 (GR.drew G10.out) (b := DS) (x := z1) (y := z2) (by simp), GR.c0 (GR.drew G10.out) (b := A) (x := X) (y := Y) (by simp), GR.c1 (GR.drew G10.out) (b := A) (x := X) (y := Y) (by simp), (GR.drew G10.out)⟩
          refine takeH 0 (fun _ _ _ _ _ h => h) (by kernel_rfl) hHeld rfl (by kernel_rfl) (by rfl) (v := ?_) ?_ ?_
          rotate_left
          ((intro wz hz; (try dsimp only at hz); go_simp) <;> with_reducible rfl)
          try simp only [Act.put, List.setIfInBounds_toArray, List.set_cons_zero, List.set_cons_succ]
          refine takeH 1 (fun _ _ _ _ _ h => h) (by kernel_rfl) hHeld rfl (by kernel_rfl) (by rfl) (v := ?_) ?_ ?_
          rotate_left
          ((intro wz hz; (try dsimp only at hz); go_simp) <;> with_reducible rfl)
          try simp only [Act.put, List.setIfInBounds_toArray, List.set_cons_zero, List.set_cons_succ]
          refine takeH 2 (fun _ _ _ _ _ h => h) (by kernel_rfl) hHeld rfl (by kernel_rfl) (by rfl) (v := ?_) ?_ ?_
          rotate_left
          ((intro wz hz; (try dsimp only at hz); go_simp) <;> with_reducible rfl)
          try simp only [Act.put, List.setIfInBounds_toArray, List.set_cons_zero, List.set_cons_succ]
          refine takeH 3 (fun _ _ _ _ _ h => h) (by kernel_rfl) hHeld rfl (by kernel_rfl) (by rfl) (v := ?_) ?_ ?_
          rotate_left
          ((intro wz hz; (try dsimp only at hz); go_simp) <;> with_reducible rfl)
          try simp only [Act.put, List.setIfInBounds_toArray, List.set_cons_zero, List.set_cons_succ]
          refine takeH 4 (fun _ _ _ _ _ h => h) (by kernel_rfl) hHeld rfl (by kernel_rfl) (by rfl) (v := ?_) ?_ ?_
          rotate_left
          ((intro wz hz; (try dsimp only at hz); go_simp) <;> with_reducible rfl)
          try simp only [Act.put, List.setIfInBounds_toArray, List.set_cons_zero, List.set_cons_succ]
          refine takeH 5 (fun _ _ _ _ _ h => h) (by kernel_rfl) hHeld rfl (by kernel_rfl) (by rfl) (v := ?_) ?_ ?_
          rotate_left
          ((intro wz hz; (try dsimp only at hz); go_simp) <;> with_reducible rfl)
          try simp only [Act.put, List.setIfInBounds_toArray, List.set_cons_zero, List.set_cons_succ]
          refine takeH 6 (fun _ _ _ _ _ h => h) (by kernel_rfl) hHeld rfl (by kernel_rfl) (by rfl) (v := ?_) ?_ ?_
          rotate_left
          ((intro wz hz; (try dsimp only at hz); go_simp) <;> with_reducible rfl)
          try simp only [Act.put, List.setIfInBounds_toArray, List.set_cons_zero, List.set_cons_succ]
          refine takeH 7 (fun _ _ _ _ _ h => h) (by kernel_rfl) hHeld rfl (by kernel_rfl) (by rfl) (v := ?_) ?_ ?_
          rotate_left
          ((intro wz hz; (try dsimp only at hz); go_simp) <;> with_reducible rfl)
          try simp only [Act.put, List.setIfInBounds_toArray, List.set_cons_zero, List.set_cons_succ]
          refine stepH 8 (by kernel_rfl) rfl (by rfl) (fun K hK => ?_)
          go_simp
          refine (zero7 _).mono ?_
          rintro e wqH10 ⟨rfl, hqH10⟩
          have H10 := GR.next hHeld.2.2.2.2.2.2.2.2.2.2 hqH10
          refine hK.out _ _ ?_ (fun hHeld => ?_)
          · exact ⟨GR.c0 H10 (b := DX) (x := t1) (y := t2) (by simp), GR.c1 H10 (b := DX) (x := t1) (y := t2) (by simp), GR.c0 H10 (b := DY) (x := t1) (y := t2) (by simp), GR.c1 H10 (b := DY) (x := t1) (y := t2) (by simp), GR.c0 H10 (b := DA) (x := 0) (y := 1) (by simp), GR.c1 H10 (b := DA) (x := 0) (y := 1) (by simp), GR.c0 H10 (b := DS) (x := z1) (y := z2) (by simp), GR.c1 H10 (b := DS) (x := z1) (y := z2) (by simp), GR.c0 H10 (b := A) (x := X) (y := Y) (by simp), GR.c1 H10 (b := A) (x := X) (y := Y) (by simp), H10⟩
          clear hK K
          try simp only [Act.put, List.setIfInBounds_toArray, List.set_cons_zero, List.set_cons_succ]
          refine takeH 9 (fun _ _ _ _ _ h => h) (by kernel_rfl) hHeld rfl (by kernel_rfl) (by rfl) (v := ?_) ?_ ?_
          rotate_left
          ((intro wz hz; (try dsimp only at hz); go_simp) <;> with_reducible rfl)
          try simp only [Act.put, List.setIfInBounds_toArray, List.set_cons_zero, List.set_cons_succ]
          refine takeH 10 (fun _ _ _ _ _ h => h) (by kernel_rfl) hHeld rfl (by kernel_rfl) (by rfl) (v := ?_) ?_ ?_
          rotate_left
          ((intro wz hz; (try dsimp only at hz); go_simp) <;> with_reducible rfl)
          try simp only [Act.put, List.setIfInBounds_toArray, List.set_cons_zero, List.set_cons_succ]
          refine takeH 11 (fun _ _ _ _ _ h => h) (by kernel_rfl) hHeld rfl (by kernel_rfl) (by rfl) (v := ?_) ?_ ?_
          rotate_left
          ((intro wz hz; (try dsimp only at hz); go_simp) <;> with_reducible rfl)
          try simp only [Act.put, List.setIfInBounds_toArray, List.set_cons_zero, List.set_cons_succ]
          refine takeH 12 (fun _ _ _ _ _ h => h) (by kernel_rfl) hHeld rfl (by kernel_rfl) (by rfl) (v := ?_) ?_ ?_
          rotate_left
          ((intro wz hz; (try dsimp only at hz); go_simp) <;> with_reducible rfl)
          try simp only [Act.put, List.setIfInBounds_toArray, List.set_cons_zero, List.set_cons_succ]
          refine takeH 13 (fun _ _ _ _ _ h => h) (by kernel_rfl) hHeld rfl (by kernel_rfl) (by rfl) (v := ?_) ?_ ?_
          rotate_left
          ((intro wz hz; (try dsimp only at hz); go_simp) <;> with_reducible rfl)
          try simp only [Act.put, List.setIfInBounds_toArray, List.set_cons_zero, List.set_cons_succ]
          refine takeH 14 (fun _ _ _ _ _ h => h) (by kernel_rfl) hHeld rfl (by kernel_rfl) (by rfl) (v := ?_) ?_ ?_
          rotate_left
          ((intro wz hz; (try dsimp only at hz); go_simp) <;> with_reducible rfl)
          try simp only [Act.put, List.setIfInBounds_toArray, List.set_cons_zero, List.set_cons_succ]
          refine takeH 15 (fun _ _ _ _ _ h => h) (by kernel_rfl) hHeld rfl (by kernel_rfl) (by rfl) (v := ?_) ?_ ?_
          rotate_left
          ((intro wz hz; (try dsimp only at hz); go_simp) <;> with_reducible rfl)
          try simp only [Act.put, List.setIfInBounds_toArray, List.set_cons_zero, List.set_cons_succ]
          refine takeH 16 (fun _ _ _ _ _ h => h) (by kernel_rfl) hHeld rfl (by kernel_rfl) (by rfl) (v := ?_) ?_ ?_
          rotate_left
          ((intro wz hz; (try dsimp only at hz); go_simp) <;> with_reducible rfl)
          try simp only [Act.put, List.setIfInBounds_toArray, List.set_cons_zero, List.set_cons_succ]
          refine takeH 17 (fun _ _ _ _ _ h => h) (by kernel_rfl) hHeld rfl (by kernel_rfl) (by rfl) (v := ?_) ?_ ?_
          rotate_left
          ((intro wz hz; (try dsimp only at hz); go_simp) <;> with_reducible rfl)
          try simp only [Act.put, List.setIfInBounds_toArray, List.set_cons_zero, List.set_cons_succ]
          refine takeH 18 (fun _ _ _ _ _ h => h) (by kernel_rfl) hHeld rfl (by kernel_rfl) (by rfl) (v := ?_) ?_ ?_
          rotate_left
          ((intro wz hz; (try dsimp only at hz); go_simp) <;> with_reducible rfl)
          try simp only [Act.put, List.setIfInBounds_toArray, List.set_cons_zero, List.set_cons_succ]
          refine takeH 19 (fun _ _ _ _ _ h => h) (by kernel_rfl) hHeld rfl (by kernel_rfl) (by rfl) (v := ?_) ?_ ?_
          rotate_left
          ((intro wz hz; (try dsimp only at hz); go_simp) <;> with_reducible rfl)
          try simp only [Act.put, List.setIfInBounds_toArray, List.set_cons_zero, List.set_cons_succ]
          refine stepH 20 (by kernel_rfl) rfl (by rfl) (fun K hK => ?_)
          go_simp
          refine (c12.out hsum _).mono ?_
          rintro e wqH11 ⟨rfl, hqH11⟩
          have H11 := GR.next hHeld.2.2.2.2.2.2.2.2.2.2 hqH11
          refine hK.out _ _ ?_ (fun hHeld => ?_)
          · exact ⟨GR.c0 H11 (b := DX) (x := t1) (y := t2) (by simp), GR.c1 H11 (b := DX) (x := t1) (y := t2) (by simp), GR.c0 H11 (b := DY) (x := t1) (y := t2) (by simp), GR.c1 H11 (b := DY) (x := t1) (y := t2) (by simp), GR.c0 H11 (b := DA) (x := 0) (y := 1) (by simp), GR.c1 H11 (b := DA) (x := 0) (y := 1) (by simp), GR.c0 H11 (b := DS) (x := z1) (y := z2) (by simp), GR.c1 H11 (b := DS) (x := z1) (y := z2) (by simp), GR.c0 H11 (b := A) (x := X) (y := Y) (by simp), GR.c1 H11 (b := A) (x := X) (y := Y) (by simp), H11⟩
          clear hK K
          try simp only [Act.put, List.setIfInBounds_toArray, List.set_cons_zero, List.set_cons_succ]
          refine takeH 21 (fun _ _ _ _ _ h => h) (by kernel_rfl) hHeld rfl (by kernel_rfl) (by rfl) (v := ?_) ?_ ?_
          rotate_left
          ((intro wz hz; (try dsimp only at hz); go_simp) <;> with_reducible rfl)
          try simp only [Act.put, List.setIfInBounds_toArray, List.set_cons_zero, List.set_cons_succ]
          refine takeH 22 (fun _ _ _ _ _ h => h) (by kernel_rfl) hHeld rfl (by kernel_rfl) (by rfl) (v := ?_) ?_ ?_
          rotate_left
          ((intro wz hz; (try dsimp only at hz); go_simp) <;> with_reducible rfl)
          try simp only [Act.put, List.setIfInBounds_toArray, List.set_cons_zero, List.set_cons_succ]
          refine takeH 23 (fun _ _ _ _ _ h => h) (by kernel_rfl) hHeld rfl (by kernel_rfl) (by rfl) (v := ?_) ?_ ?_
          rotate_left
          ((intro wz hz; (try dsimp only at hz); go_simp) <;> with_reducible rfl)
          try simp only [Act.put, List.setIfInBounds_toArray, List.set_cons_zero, List.set_cons_succ]
          refine wpAnyH_done (by kernel_rfl) (NoPanic.normal ?_) _
          go_wp2
          go_ret
          exact ⟨rfl, (hHeld.2.2.2.2.2.2.2.2.2.2).2⟩
  · go_upto_region 6 with fail
    have G8 := Lib.hid (GR.new G7.out 0 0)
    generalize w7.alloc (.cells #[.int .u64 0, .int .u64 0] 38) = w8 at G8 ⊢
    generalize w7.heap.size = DF at G8 ⊢
    go_cut [17] (fun v wc => v = .bool true ∧ GR w wc [(DA, 0, 1), (DY, t1, t2), (DX, t1, t2), (C, X'', Y''), (B, X', Y'), (A, X, Y)])
    case first =>
      have hN := errNeN
      clear G7
      refine wp_region_noPanic ?_
      refine wp_region_held_drew (S := fun w' => GR w w' [(DF, 0, 0), (DA, 0, 1), (DY, t1, t2), (DX, t1, t2), (C, X'', Y''), (B, X', Y'), (A, X, Y)]) (by kernel_rfl) ?_ (fun hHeld => ?_)
      · exact GR.drew G8.out
      refine takeH 0 (fun _ _ _ _ _ h => h) (by kernel_rfl) hHeld rfl (by kernel_rfl) (by rfl) (v := ?_) ?_ ?_
      rotate_left
      ((intro wz hz; (try dsimp only at hz); go_simp) <;> with_reducible rfl)
      try simp only [Act.put, List.setIfInBounds_toArray, List.set_cons_zero, List.set_cons_succ]
      refine takeH 1 (fun _ _ _ _ _ h => h) (by kernel_rfl) hHeld rfl (by kernel_rfl) (by rfl) (v := ?_) ?_ ?_
      rotate_left
      ((intro wz hz; (try dsimp only at hz); go_simp) <;> with_reducible rfl)
      try simp only [Act.put, List.setIfInBounds_toArray, List.set_cons_zero, List.set_cons_succ]
      refine takeH 2 (fun _ _ _ _ _ h => h) (by kernel_rfl) hHeld rfl (by kernel_rfl) (by rfl) (v := ?_) ?_ ?_
      rotate_left
      ((intro wz hz; (try dsimp only at hz); go_simp) <;> with_reducible rfl)
      try simp only [Act.put, List.setIfInBounds_toArray, List.set_cons_zero, List.set_cons_succ]
      refine skipG 3 (fun _ _ _ _ _ h => h) (by kernel_rfl) hHeld rfl (by kernel_rfl) (by rfl) ?_
      try simp only [Act.put, List.setIfInBounds_toArray, List.set_cons_zero, List.set_cons_succ]
      refine skipG 4 (fun _ _ _ _ _ h => h) (by kernel_rfl) hHeld rfl (by kernel_rfl) (by rfl) ?_
      try simp only [Act.put, List.setIfInBounds_toArray, List.set_cons_zero, List.set_cons_succ]
      refine skipG 5 (fun _ _ _ _ _ h => h) (by kernel_rfl) hHeld rfl (by kernel_rfl) (by rfl) ?_
      try simp only [Act.put, List.setIfInBounds_toArray, List.set_cons_zero, List.set_cons_succ]
      refine skipG 6 (fun _ _ _ _ _ h => h) (by kernel_rfl) hHeld rfl (by kernel_rfl) (by rfl) ?_
      try simp only [Act.put, List.setIfInBounds_toArray, List.set_cons_zero, List.set_cons_succ]
      refine skipG 7 (fun _ _ _ _ _ h => h) (by kernel_rfl) hHeld rfl (by kernel_rfl) (by rfl) ?_
      try simp only [Act.put, List.setIfInBounds_toArray, List.set_cons_zero, List.set_cons_succ]
      refine skipG 8 (fun _ _ _ _ _ h => h) (by kernel_rfl) hHeld rfl (by kernel_rfl) (by rfl) ?_
      try simp only [Act.put, List.setIfInBounds_toArray, List.set_cons_zero, List.set_cons_succ]
      refine skipG 9 (fun _ _ _ _ _ h => h) (by kernel_rfl) hHeld rfl (by kernel_rfl) (by rfl) ?_
      try simp only [Act.put, List.setIfInBounds_toArray, List.set_cons_zero, List.set_cons_succ]
      refine takeH 10 (fun _ _ _ _ _ h => h) (by kernel_rfl) hHeld rfl (by kernel_rfl) (by rfl) (v := ?_) ?_ ?_
      rotate_left
      ((intro wz hz; (try dsimp only at hz); go_simp) <;> with_reducible rfl)
      try simp only [Act.put, List.setIfInBounds_toArray, List.set_cons_zero, List.set_cons_succ]
      refine takeH 11 (fun _ _ _ _ _ h => h) (by kernel_rfl) hHeld rfl (by kernel_rfl) (by rfl) (v := ?_) ?_ ?_
      rotate_left
      ((intro wz hz; (try dsimp only at hz); go_simp) <;> with_reducible rfl)
      try simp only [Act.put, List.setIfInBounds_toArray, List.set_cons_zero, List.set_cons_succ]
      refine wpAnyH_done (by kernel_rfl) (NoPanic.normal ?_) _
      go_wp2_with fail
      go_meet
      exact ⟨rfl, GR.tail hHeld⟩
    case' rest =>
      rename World => w9
      obtain ⟨rfl, G9⟩ := hcut
      replace G9 := Lib.hid G9
      clear G7 G8
      by_cases hkb : 4611686018427387904 < k
      · go_wp2_with fail
        refine wp_region_noPanic ?_
        refine wp_region_held_drew (S := fun w' => w'.cell? ⟨DX, 0, none⟩ = some (.int .u64 (t1)) ∧ w'.cell? ⟨DX, 1, none⟩ = some (.int .u64 (t2)) ∧ w'.cell? ⟨DY, 0, none⟩ = some (.int .u64 (t1)) ∧ w'.cell? ⟨DY, 1, none⟩ = some (.int .u64 (t2)) ∧ w'.cell? ⟨DA, 0, none⟩ = some (.int .u64 (0)) ∧ w'.cell? ⟨DA, 1, none⟩ = some (.int .u64 (1)) ∧ GR w w' [(DA, 0, 1), (DY, t1, t2), (DX, t1, t2), (C, X'', Y''), (B, X', Y'), (A, X, Y)]) (by kernel_rfl) ?_ (fun hHeld => ?_)
        · exact ⟨GR.c0 (GR.drew G9.out) (b := DX) (x := t1) (y := t2) (by simp), GR.c1 (GR.drew G9.out) (b := DX) (x := t1) (y := t2) (by simp), GR.c0 (GR.drew G9.out) (b := DY) (x := t1) (y := t2) (by simp), GR.c1 (GR.drew G9.out) (b := DY) (x := t1) (y := t2) (by simp), GR.c0 (GR.drew G9.out) (b := DA) (x := 0) (y := 1) (by simp), GR.c1 (GR.drew G9.out) (b := DA) (x := 0) (y := 1) (by simp), (GR.drew G9.out)⟩
        refine takeH 0 (fun _ _ _ _ _ h => h) (by kernel_rfl) hHeld rfl (by kernel_rfl) (by rfl) (v := ?_) ?_ ?_
        rotate_left
        ((intro wz hz; (try dsimp only at hz); go_simp) <;> with_reducible rfl)
        try simp only [Act.put, List.setIfInBounds_toArray, List.set_cons_zero, List.set_cons_succ]
        refine takeH 1 (fun _ _ _ _ _ h => h) (by kernel_rfl) hHeld rfl (by kernel_rfl) (by rfl) (v := ?_) ?_ ?_
        rotate_left
        ((intro wz hz; (try dsimp only at hz); go_simp) <;> with_reducible rfl)
        try simp only [Act.put, List.setIfInBounds_toArray, List.set_cons_zero, List.set_cons_succ]
        refine takeH 2 (fun _ _ _ _ _ h => h) (by kernel_rfl) hHeld rfl (by kernel_rfl) (by rfl) (v := ?_) ?_ ?_
        rotate_left
        ((intro wz hz; (try dsimp only at hz); go_simp) <;> with_reducible rfl)
        try simp only [Act.put, List.setIfInBounds_toArray, List.set_cons_zero, List.set_cons_succ]
        refine takeH 3 (fun _ _ _ _ _ h => h) (by kernel_rfl) hHeld rfl (by kernel_rfl) (by rfl) (v := ?_) ?_ ?_
        rotate_left
        ((intro wz hz; (try dsimp only at hz); go_simp) <;> with_reducible rfl)
        try simp only [Act.put, List.setIfInBounds_toArray, List.set_cons_zero, List.set_cons_succ]
        refine takeH 4 (fun _ _ _ _ _ h => h) (by kernel_rfl) hHeld rfl (by kernel_rfl) (by rfl) (v := ?_) ?_ ?_
        rotate_left
        ((intro wz hz; (try dsimp only at hz); go_simp) <;> with_reducible rfl)
        try simp only [Act.put, List.setIfInBounds_toArray, List.set_cons_zero, List.set_cons_succ]
        refine takeH 5 (fun _ _ _ _ _ h => h) (by kernel_rfl) hHeld rfl (by kernel_rfl) (by rfl) (v := ?_) ?_ ?_
        rotate_left
        ((intro wz hz; (try dsimp only at hz); go_simp) <;> with_reducible rfl)
        try simp only [Act.put, List.setIfInBounds_toArray, List.set_cons_zero, List.set_cons_succ]
        refine takeH 6 (fun _ _ _ _ _ h => h) (by kernel_rfl) hHeld rfl (by kernel_rfl) (by rfl) (v := ?_) ?_ ?_
        rotate_left
        ((intro wz hz; (try dsimp only at hz); go_simp) <;> with_reducible rfl)
        try simp only [Act.put, List.setIfInBounds_toArray, List.set_cons_zero, List.set_cons_succ]
        refine takeH 7 (fun _ _ _ _ _ h => h) (by kernel_rfl) hHeld rfl (by kernel_rfl) (by rfl) (v := ?_) ?_ ?_
        rotate_left
        ((intro wz hz; (try dsimp only at hz); go_simp) <;> with_reducible rfl)
        try simp only [Act.put, List.setIfInBounds_toArray, List.set_cons_zero, List.set_cons_succ]
        refine stepH 8 (by kernel_rfl) rfl (by rfl) (fun K hK => ?_)
        go_simp
        refine (zero7 _).mono ?_
        rintro e wqH8 ⟨rfl, hqH8⟩
        have H8 := GR.next hHeld.2.2.2.2.2.2 hqH8
        refine hK.out _ _ ?_ (fun hHeld => ?_)
        · exact ⟨GR.c0 H8 (b := DX) (x := t1) (y := t2) (by simp), GR.c1 H8 (b := DX) (x := t1) (y := t2) (by simp), GR.c0 H8 (b := DY) (x := t1) (y := t2) (by simp), GR.c1 H8 (b := DY) (x := t1) (y := t2) (by simp), GR.c0 H8 (b := DA) (x := 0) (y := 1) (by simp), GR.c1 H8 (b := DA) (x := 0) (y := 1) (by simp), H8⟩
        clear hK K
        try simp only [Act.put, List.setIfInBounds_toArray, List.set_cons_zero, List.set_cons_succ]
        refine takeH 9 (fun _ _ _ _ _ h => h) (by kernel_rfl) hHeld rfl (by kernel_rfl) (by rfl) (v := ?_) ?_ ?_
        rotate_left
        ((intro wz hz; (try dsimp only at hz); go_simp) <;> with_reducible rfl)
        try simp only [Act.put, List.setIfInBounds_toArray, List.set_cons_zero, List.set_cons_succ]
        refine takeH 10 (fun _ _ _ _ _ h => h) (by kernel_rfl) hHeld rfl (by kernel_rfl) (by rfl) (v := ?_) ?_ ?_
        rotate_left
        ((intro wz hz; (try dsimp only at hz); go_simp) <;> with_reducible rfl)
        try simp only [Act.put, List.setIfInBounds_toArray, List.set_cons_zero, List.set_cons_succ]
        refine takeH 11 (fun _ _ _ _ _ h => h) (by kernel_rfl) hHeld rfl (by kernel_rfl) (by rfl) (v := ?_) ?_ ?_
        rotate_left
        ((intro wz hz; (try dsimp only at hz); go_simp) <;> with_reducible rfl)
        try simp only [Act.put, List.setIfInBounds_toArray, List.set_cons_zero, List.set_cons_succ]
        refine takeH 12 (fun _ _ _ _ _ h => h) (by kernel_rfl) hHeld rfl (by kernel_rfl) (by rfl) (v := ?_) ?_ ?_
        rotate_left
        ((intro wz hz; (try dsimp only at hz); go_simp) <;> with_reducible rfl)
        try simp only [Act.put, List.setIfInBounds_toArray, List.set_cons_zero, List.set_cons_succ]
        refine takeH 13 (fun _ _ _ _ _ h => h) (by kernel_rfl) hHeld rfl (by kernel_rfl) (by rfl) (v := ?_) ?_ ?_
        rotate_left
        ((intro wz hz; (try dsimp only at hz); go_simp) <;> with_reducible rfl)
        try simp only [Act.put, List.setIfInBounds_toArray, List.set_cons_zero, List.set_cons_succ]
        refine takeH 14 (fun _ _ _ _ _ h => h) (by kernel_rfl) hHeld rfl (by kernel_rfl) (by rfl) (v := ?_) ?_ ?_
        rotate_left
        ((intro wz hz; (try dsimp only at hz); go_simp) <;> with_reducible rfl)
        try simp only [Act.put, List.setIfInBounds_toArray, List.set_cons_zero, List.set_cons_succ]
        refine wpAnyH_done (by kernel_rfl) (NoPanic.normal ?_) _
        go_wp2
        go_ret
        exact ⟨rfl, (hHeld.2.2.2.2.2.2).2⟩
      · by_cases hnb : 4611686018427387904 < n
        · go_wp2_with fail
          refine wp_region_noPanic ?_
          refine wp_region_held_drew (S := fun w' => w'.cell? ⟨DX, 0, none⟩ = some (.int .u64 (t1)) ∧ w'.cell? ⟨DX, 1, none⟩ = some (.int .u64 (t2)) ∧ w'.cell? ⟨DY, 0, none⟩ = some (.int .u64 (t1)) ∧ w'.cell? ⟨DY, 1, none⟩ = some (.int .u64 (t2)) ∧ w'.cell? ⟨DA, 0, none⟩ = some (.int .u64 (0)) ∧ w'.cell? ⟨DA, 1, none⟩ = some (.int .u64 (1)) ∧ GR w w' [(DA, 0, 1), (DY, t1, t2), (DX, t1, t2), (C, X'', Y''), (B, X', Y'), (A, X, Y)]) (by kernel_rfl) ?_ (fun hHeld => ?_)
          · exact ⟨GR.c0 (GR.drew G9.out) (b := DX) (x := t1) (y := t2) (by simp), GR.c1 (GR.drew G9.out) (b := DX) (x := t1) (y := t2) (by simp), GR.c0 (GR.drew G9.out) (b := DY) (x := t1) (y := t2) (by simp), GR.c1 (GR.drew G9.out) (b := DY) (x := t1) (y := t2) (by simp), GR.c0 (GR.drew G9.out) (b := DA) (x := 0) (y := 1) (by simp), GR.c1 (GR.drew G9.out) (b := DA) (x := 0) (y := 1) (by simp), (GR.drew G9.out)⟩
          refine takeH 0 (fun _ _ _ _ _ h => h) (by kernel_rfl) hHeld rfl (by kernel_rfl) (by rfl) (v := ?_) ?_ ?_
          rotate_left
          ((intro wz hz; (try dsimp only at hz); go_simp) <;> with_reducible rfl)
          try simp only [Act.put, List.setIfInBounds_toArray, List.set_cons_zero, List.set_cons_succ]
          refine takeH 1 (fun _ _ _ _ _ h => h) (by kernel_rfl) hHeld rfl (by kernel_rfl) (by rfl) (v := ?_) ?_ ?_
          rotate_left
          ((intro wz hz; (try dsimp only at hz); go_simp) <;> with_reducible rfl)
          try simp only [Act.put, List.setIfInBounds_toArray, List.set_cons_zero, List.set_cons_succ]
          refine takeH 2 (fun _ _ _ _ _ h => h) (by kernel_rfl) hHeld rfl (by kernel_rfl) (by rfl) (v := ?_) ?_ ?_
          rotate_left
          ((intro wz hz; (try dsimp only at hz); go_simp) <;> with_reducible rfl)
          try simp only [Act.put, List.setIfInBounds_toArray, List.set_cons_zero, List.set_cons_succ]
          refine takeH 3 (fun _ _ _ _ _ h => h) (by kernel_rfl) hHeld rfl (by kernel_rfl) (by rfl) (v := ?_) ?_ ?_
          rotate_left
          ((intro wz hz; (try dsimp only at hz); go_simp) <;> with_reducible rfl)
          try simp only [Act.put, List.setIfInBounds_toArray, List.set_cons_zero, List.set_cons_succ]
          refine takeH 4 (fun _ _ _ _ _ h => h) (by kernel_rfl) hHeld rfl (by kernel_rfl) (by rfl) (v := ?_) ?_ ?_
          rotate_left
          ((intro wz hz; (try dsimp only at hz); go_simp) <;> with_reducible rfl)
          try simp only [Act.put, List.setIfInBounds_toArray, List.set_cons_zero, List.set_cons_succ]
          refine takeH 5 (fun _ _ _ _ _ h => h) (by kernel_rfl) hHeld rfl (by kernel_rfl) (by rfl) (v := ?_) ?_ ?_
          rotate_left
          ((intro wz hz; (try dsimp only at hz); go_simp) <;> with_reducible rfl)
          try simp only [Act.put, List.setIfInBounds_toArray, List.set_cons_zero, List.set_cons_succ]
          refine takeH 6 (fun _ _ _ _ _ h => h) (by kernel_rfl) hHeld rfl (by kernel_rfl) (by rfl) (v := ?_) ?_ ?_
          rotate_left
          ((intro wz hz; (try dsimp only at hz); go_simp) <;> with_reducible rfl)
          try simp only [Act.put, List.setIfInBounds_toArray, List.set_cons_zero, List.set_cons_succ]
          refine takeH 7 (fun _ _ _ _ _ h => h) (by kernel_rfl) hHeld rfl (by kernel_rfl) (by rfl) (v := ?_) ?_ ?_
          rotate_left
          ((intro wz hz; (try dsimp only at hz); go_simp) <;> with_reducible rfl)
          try simp only [Act.put, List.setIfInBounds_toArray, List.set_cons_zero, List.set_cons_succ]
          refine stepH 8 (by kernel_rfl) rfl (by rfl) (fun K hK => ?_)
          go_simp
          refine (zero7 _).mono ?_
          rintro e wqH8 ⟨rfl, hqH8⟩
          have H8 := GR.next hHeld.2.2.2.2.2.2 hqH8
          refine hK.out _ _ ?_ (fun hHeld => ?_)
          · exact ⟨GR.c0 H8 (b := DX) (x := t1) (y := t2) (by simp), GR.c1 H8 (b := DX) (x := t1) (y := t2) (by simp), GR.c0 H8 (b := DY) (x := t1) (y := t2) (by simp), GR.c1 H8 (b := DY) (x := t1) (y := t2) (by simp), GR.c0 H8 (b := DA) (x := 0) (y := 1) (by simp), GR.c1 H8 (b := DA) (x := 0) (y := 1) (by simp), H8⟩
          clear hK K
          try simp only [Act.put, List.setIfInBounds_toArray, List.set_cons_zero, List.set_cons_succ]
          refine takeH 9 (fun _ _ _ _ _ h => h) (by kernel_rfl) hHeld rfl (by kernel_rfl) (by rfl) (v := ?_) ?_ ?_
          rotate_left
          ((intro wz hz; (try dsimp only at hz); go_simp) <;> with_reducible rfl)
          try simp only [Act.put, List.setIfInBounds_toArray, List.set_cons_zero, List.set_cons_succ]
          refine takeH 10 (fun _ _ _ _ _ h => h) (by kernel_rfl) hHeld rfl (by kernel_rfl) (by rfl) (v := ?_) ?_ ?_
          rotate_left
          ((intro wz hz; (try dsimp only at hz); go_simp) <;> with_reducible rfl)
          try simp only [Act.put, List.setIfInBounds_toArray, List.set_cons_zero, List.set_cons_succ]
          refine takeH 11 (fun _ _ _ _ _ h => h) (by kernel_rfl) hHeld rfl (by kernel_rfl) (by rfl) (v := ?_) ?_ ?_
          rotate_left
          ((intro wz hz; (try dsimp only at hz); go_simp) <;> with_reducible rfl)
          try simp only [Act.put, List.setIfInBounds_toArray, List.set_cons_zero, List.set_cons_succ]
          refine takeH 12 (fun _ _ _ _ _ h => h) (by kernel_rfl) hHeld rfl (by kernel_rfl) (by rfl) (v := ?_) ?_ ?_
          rotate_left
          ((intro wz hz; (try dsimp only at hz); go_simp) <;> with_reducible rfl)
          try simp only [Act.put, List.setIfInBounds_toArray, List.set_cons_zero, List.set_cons_succ]
          refine takeH 13 (fun _ _ _ _ _ h => h) (by kernel_rfl) hHeld rfl (by kernel_rfl) (by rfl) (v := ?_) ?_ ?_
          rotate_left
          ((intro wz hz; (try dsimp only at hz); go_simp) <;> with_reducible rfl)
          try simp only [Act.put, List.setIfInBounds_toArray, List.set_cons_zero, List.set_cons_succ]
          refine takeH 14 (fun _ _ _ _ _ h => h) (by kernel_rfl) hHeld rfl (by kernel_rfl) (by rfl) (v := ?_) ?_ ?_
          rotate_left
          ((intro wz hz; (try dsimp only at hz); go_simp) <;> with_reducible rfl)
          try simp only [Act.put, List.setIfInBounds_toArray, List.set_cons_zero, List.set_cons_succ]
          refine wpAnyH_done (by kernel_rfl) (NoPanic.normal ?_) _
          go_wp2
          go_ret
          exact ⟨rfl, (hHeld.2.2.2.2.2.2).2⟩
        · have hsum : k + n ≤ 18446744073709551615 := by omega
          have hwr : IntKind.u64.wrap (k + n) = k + n := by rw [IntKind.wrap_u64]; omega
          go_upto_region 9 with fail
          go_cut [18] (fun v wc => ∃ D, v = .pointer (some ⟨D, 0, none⟩) ∧ GR w wc ((D, z1, z2) :: [(DA, 0, 1), (DY, t1, t2), (DX, t1, t2), (C, X'', Y''), (B, X', Y'), (A, X, Y)]))
          case first =>
            refine wp_region_noPanic ?_
            refine wp_region_held_drew (S := fun w' => w'.cell? ⟨A, 0, none⟩ = some (.int .u64 (X)) ∧ w'.cell? ⟨A, 1, none⟩ = some (.int .u64 (Y)) ∧ GR w w' [(DA, 0, 1), (DY, t1, t2), (DX, t1, t2), (C, X'', Y''), (B, X', Y'), (A, X, Y)]) (by kernel_rfl) ?_ (fun hHeld => ?_)
            · exact ⟨GR.c0 (GR.drew G9.out) (b := A) (x := X) (y := Y) (by simp), GR.c1 (GR.drew G9.out) (b := A) (x := X) (y := Y) (by simp), (GR.drew G9.out)⟩
            have P0 := GR.drew G9.out
            refine takeH 0 (fun _ _ _ _ _ h => h) (by kernel_rfl) hHeld rfl (by kernel_rfl) (by rfl) (v := ?_) ?_ ?_
            rotate_left
            ((intro wz hz; (try dsimp only at hz); go_simp) <;> with_reducible rfl)
            try simp only [Act.put, List.setIfInBounds_toArray, List.set_cons_zero, List.set_cons_succ]
            refine takeH 1 (fun _ _ _ _ _ h => h) (by kernel_rfl) hHeld rfl (by kernel_rfl) (by rfl) (v := ?_) ?_ ?_
            rotate_left
            ((intro wz hz; (try dsimp only at hz); go_simp) <;> with_reducible rfl)
            try simp only [Act.put, List.setIfInBounds_toArray, List.set_cons_zero, List.set_cons_succ]
            refine takeH 3 (fun _ _ _ _ _ h => h) (by kernel_rfl) hHeld rfl (by kernel_rfl) (by rfl) (v := ?_) ?_ ?_
            rotate_left
            ((intro wz hz; (try dsimp only at hz); go_simp) <;> with_reducible rfl)
            try simp only [Act.put, List.setIfInBounds_toArray, List.set_cons_zero, List.set_cons_succ]
            refine takeH 4 (fun _ _ _ _ _ h => h) (by kernel_rfl) hHeld rfl (by kernel_rfl) (by rfl) (v := ?_) ?_ ?_
            rotate_left
            ((intro wz hz; (try dsimp only at hz); go_simp) <;> with_reducible rfl)
            try simp only [Act.put, List.setIfInBounds_toArray, List.set_cons_zero, List.set_cons_succ]
            refine wpAnyH_ready (rs := [2, 7]) (by kernel_rfl) (by simp) ?_
            refine AllReadyH.cons (i := 2) (by rw [List.getElem?_toArray]; exact rfl) (fun K hK => ?_) (AllReadyH.cons (i := 7) (by rw [List.getElem?_toArray]; exact rfl) (fun K hK => ?_) AllReadyH.nil)
            · go_simp
              refine (c9.out _).mono ?_
              rintro e wq40 ⟨rfl, hq40⟩
              have P40 := GR.next P0 hq40
              refine hK.out _ _ ?_ (fun hHeld => ?_)
              · exact ⟨GR.c0 P40 (b := A) (x := X) (y := Y) (by simp), GR.c1 P40 (b := A) (x := X) (y := Y) (by simp), P40⟩
              clear hK K
              try simp only [Act.put, List.setIfInBounds_toArray, List.set_cons_zero, List.set_cons_succ]
              refine wpAnyH_ready (rs := [5, 7]) (by kernel_rfl) (by simp) ?_
              refine AllReadyH.cons (i := 5) (by rw [List.getElem?_toArray]; exact rfl) (fun K hK => ?_) (AllReadyH.cons (i := 7) (by rw [List.getElem?_toArray]; exact rfl) (fun K hK => ?_) AllReadyH.nil)
              · go_simp
                refine (c10.out _).mono ?_
                rintro e wq41 ⟨rfl, hq41⟩
                have P41 := GR.next P40 hq41
                refine hK.out _ _ ?_ (fun hHeld => ?_)
                · exact ⟨GR.c0 P41 (b := A) (x := X) (y := Y) (by simp), GR.c1 P41 (b := A) (x := X) (y := Y) (by simp), P41⟩
                clear hK K
                try simp only [Act.put, List.setIfInBounds_toArray, List.set_cons_zero, List.set_cons_succ]
                refine wpAnyH_ready (rs := [6, 7]) (by kernel_rfl) (by simp) ?_
                refine AllReadyH.cons (i := 6) (by rw [List.getElem?_toArray]; exact rfl) (fun K hK => ?_) (AllReadyH.cons (i := 7) (by rw [List.getElem?_toArray]; exact rfl) (fun K hK => ?_) AllReadyH.nil)
                · go_simp
                  refine (c11.out _).mono ?_
                  rintro e wq42 ⟨rfl, hq42⟩
                  have P42 := GR.next P41 hq42
                  refine hK.out _ _ ?_ (fun hHeld => ?_)
                  · exact ⟨GR.c0 P42 (b := A) (x := X) (y := Y) (by simp), GR.c1 P42 (b := A) (x := X) (y := Y) (by simp), P42⟩
                  clear hK K
                  try simp only [Act.put, List.setIfInBounds_toArray, List.set_cons_zero, List.set_cons_succ]
                  refine stepH 7 (by kernel_rfl) rfl (by rfl) (fun K hK => ?_)
                  go_simp
                  have E43 := GR.new P42 0 0
                  have F := GR.far P42
                  try (rw [show ∀ W : World, W.drew.heap.size = W.heap.size from fun _ => rfl] at E43 F)
                  have P43 := GR.tail E43
                  refine hK.out _ _ ?_ (fun hHeld => ?_)
                  · exact ⟨GR.c0 P43 (b := A) (x := X) (y := Y) (by simp), GR.c1 P43 (b := A) (x := X) (y := Y) (by simp), P43⟩
                  clear hK K
                  have BS := P42
                  try simp only [Act.put, List.setIfInBounds_toArray, List.set_cons_zero, List.set_cons_succ]
                  refine stepH 8 (by kernel_rfl) rfl (by rfl) (fun K hK => ?_)
                  have d0 := (E43.1 _ (List.mem_cons_self ..)).cell 0 rfl
                  have d1 := (E43.1 _ (List.mem_cons_self ..)).cell 1 rfl
                  have f0 := (E43.1 _ (List.mem_cons_self ..)).free 0
                  have f1 := (E43.1 _ (List.mem_cons_self ..)).free 1
                  go_simp
                  have HF : GR w _ ((_, z1, z2) :: [(DA, 0, 1), (DY, t1, t2), (DX, t1, t2), (C, X'', Y''), (B, X', Y'), (A, X, Y)]) := GR.put (x := z1) (y := z2) E43 F.1 F.2
                  refine hK.out _ _ ?_ (fun hHeld => ?_)
                  · first | exact ⟨GR.c0 (GR.tail HF) (b := A) (x := X) (y := Y) (by simp), GR.c1 (GR.tail HF) (b := A) (x := X) (y := Y) (by simp), (GR.tail HF)⟩ | exact ⟨GR.c0 (GR.alloc BS _) (b := A) (x := X) (y := Y) (by simp), GR.c1 (GR.alloc BS _) (b := A) (x := X) (y := Y) (by simp), (GR.alloc BS _)⟩
                  clear hK K
                  try simp only [Act.put, List.setIfInBounds_toArray, List.set_cons_zero, List.set_cons_succ]
                  refine wpAnyH_done (by kernel_rfl) (NoPanic.normal ?_) _
                  go_wp2_with fail
                  go_meet
                  first | exact ⟨_, rfl, HF⟩ | exact ⟨_, rfl, GR.new BS z1 z2⟩
                · go_simp
                  have E45 := GR.new P41 0 0
                  have F := GR.far P41
                  try (rw [show ∀ W : World, W.drew.heap.size = W.heap.size from fun _ => rfl] at E45 F)
                  have P45 := GR.tail E45
                  refine hK.out _ _ ?_ (fun hHeld => ?_)
                  · exact ⟨GR.c0 P45 (b := A) (x := X) (y := Y) (by simp), GR.c1 P45 (b := A) (x := X) (y := Y) (by simp), P45⟩
                  clear hK K
                  have BS := P41
                  try simp only [Act.put, List.setIfInBounds_toArray, List.set_cons_zero, List.set_cons_succ]
                  refine stepH 6 (by kernel_rfl) rfl (by rfl) (fun K hK => ?_)
                  go_simp
                  refine (c11.out _).mono ?_
                  rintro e wq46 ⟨rfl, hq46⟩
                  have E46 := GR.next E45 hq46
                  have P46 := GR.tail E46
                  refine hK.out _ _ ?_ (fun hHeld => ?_)
                  · exact ⟨GR.c0 P46 (b := A) (x := X) (y := Y) (by simp), GR.c1 P46 (b := A) (x := X) (y := Y) (by simp), P46⟩
                  clear hK K
                  try simp only [Act.put, List.setIfInBounds_toArray, List.set_cons_zero, List.set_cons_succ]
                  refine stepH 8 (by kernel_rfl) rfl (by rfl) (fun K hK => ?_)
                  have d0 := (E46.1 _ (List.mem_cons_self ..)).cell 0 rfl
                  have d1 := (E46.1 _ (List.mem_cons_self ..)).cell 1 rfl
                  have f0 := (E46.1 _ (List.mem_cons_self ..)).free 0
                  have f1 := (E46.1 _ (List.mem_cons_self ..)).free 1
                  go_simp
                  have HF : GR w _ ((_, z1, z2) :: [(DA, 0, 1), (DY, t1, t2), (DX, t1, t2), (C, X'', Y''), (B, X', Y'), (A, X, Y)]) := GR.put (x := z1) (y := z2) E46 F.1 F.2
                  refine hK.out _ _ ?_ (fun hHeld => ?_)
                  · first | exact ⟨GR.c0 (GR.tail HF) (b := A) (x := X) (y := Y) (by simp), GR.c1 (GR.tail HF) (b := A) (x := X) (y := Y) (by simp), (GR.tail HF)⟩ | exact ⟨GR.c0 (GR.alloc BS _) (b := A) (x := X) (y := Y) (by simp), GR.c1 (GR.alloc BS _) (b := A) (x := X) (y := Y) (by simp), (GR.alloc BS _)⟩
                  clear hK K
                  try simp only [Act.put, List.setIfInBounds_toArray, List.set_cons_zero, List.set_cons_succ]
                  refine wpAnyH_done (by kernel_rfl) (NoPanic.normal ?_) _
                  go_wp2_with fail
                  go_meet
                  first | exact ⟨_, rfl, HF⟩ | exact ⟨_, rfl, GR.new BS z1 z2⟩
              · go_simp
                have E48 := GR.new P40 0 0
                have F := GR.far P40
                try (rw [show ∀ W : World, W.drew.heap.size = W.heap.size from fun _ => rfl] at E48 F)
                have P48 := GR.tail E48
                refine hK.out _ _ ?_ (fun hHeld => ?_)
                · exact ⟨GR.c0 P48 (b := A) (x := X) (y := Y) (by simp), GR.c1 P48 (b := A) (x := X) (y := Y) (by simp), P48⟩
                clear hK K
                have BS := P40
                try simp only [Act.put, List.setIfInBounds_toArray, List.set_cons_zero, List.set_cons_succ]
                refine stepH 5 (by kernel_rfl) rfl (by rfl) (fun K hK => ?_)
                go_simp
                refine (c10.out _).mono ?_
                rintro e wq49 ⟨rfl, hq49⟩
                have E49 := GR.next E48 hq49
                have P49 := GR.tail E49
                refine hK.out _ _ ?_ (fun hHeld => ?_)
                · exact ⟨GR.c0 P49 (b := A) (x := X) (y := Y) (by simp), GR.c1 P49 (b := A) (x := X) (y := Y) (by simp), P49⟩
                clear hK K
                try simp only [Act.put, List.setIfInBounds_toArray, List.set_cons_zero, List.set_cons_succ]
                refine stepH 6 (by kernel_rfl) rfl (by rfl) (fun K hK => ?_)
                go_simp
                refine (c11.out _).mono ?_
                rintro e wq50 ⟨rfl, hq50⟩
                have E50 := GR.next E49 hq50
                have P50 := GR.tail E50
                refine hK.out _ _ ?_ (fun hHeld => ?_)
                · exact ⟨GR.c0 P50 (b := A) (x := X) (y := Y) (by simp), GR.c1 P50 (b := A) (x := X) (y := Y) (by simp), P50⟩
                clear hK K
                try simp only [Act.put, List.setIfInBounds_toArray, List.set_cons_zero, List.set_cons_succ]
                refine stepH 8 (by kernel_rfl) rfl (by rfl) (fun K hK => ?_)
                have d0 := (E50.1 _ (List.mem_cons_self ..)).cell 0 rfl
                have d1 := (E50.1 _ (List.mem_cons_self ..)).cell 1 rfl
                have f0 := (E50.1 _ (List.mem_cons_self ..)).free 0
                have f1 := (E50.1 _ (List.mem_cons_self ..)).free 1
                go_simp
                have HF : GR w _ ((_, z1, z2) :: [(DA, 0, 1), (DY, t1, t2), (DX, t1, t2), (C, X'', Y''), (B, X', Y'), (A, X, Y)]) := GR.put (x := z1) (y := z2) E50 F.1 F.2
                refine hK.out _ _ ?_ (fun hHeld => ?_)
                · first | exact ⟨GR.c0 (GR.tail HF) (b := A) (x := X) (y := Y) (by simp), GR.c1 (GR.tail HF) (b := A) (x := X) (y := Y) (by simp), (GR.tail HF)⟩ | exact ⟨GR.c0 (GR.alloc BS _) (b := A) (x := X) (y := Y) (by simp), GR.c1 (GR.alloc BS _) (b := A) (x := X) (y := Y) (by simp), (GR.alloc BS _)⟩
                clear hK K
                try simp only [Act.put, List.setIfInBounds_toArray, List.set_cons_zero, List.set_cons_succ]
                refine wpAnyH_done (by kernel_rfl) (NoPanic.normal ?_) _
                go_wp2_with fail
                go_meet
                first | exact ⟨_, rfl, HF⟩ | exact ⟨_, rfl, GR.new BS z1 z2⟩
            · go_simp
              have E52 := GR.new P0 0 0
              have F := GR.far P0
              try (rw [show ∀ W : World, W.drew.heap.size = W.heap.size from fun _ => rfl] at E52 F)
              have P52 := GR.tail E52
              refine hK.out _ _ ?_ (fun hHeld => ?_)
              · exact ⟨GR.c0 P52 (b := A) (x := X) (y := Y) (by simp), GR.c1 P52 (b := A) (x := X) (y := Y) (by simp), P52⟩
              clear hK K
              have BS := P0
              try simp only [Act.put, List.setIfInBounds_toArray, List.set_cons_zero, List.set_cons_succ]
              refine stepH 2 (by kernel_rfl) rfl (by rfl) (fun K hK => ?_)
              go_simp
              refine (c9.out _).mono ?_
              rintro e wq53 ⟨rfl, hq53⟩
              have E53 := GR.next E52 hq53
              have P53 := GR.tail E53
              refine hK.out _ _ ?_ (fun hHeld => ?_)
              · exact ⟨GR.c0 P53 (b := A) (x := X) (y := Y) (by simp), GR.c1 P53 (b := A) (x := X) (y := Y) (by simp), P53⟩
              clear hK K
              try simp only [Act.put, List.setIfInBounds_toArray, List.set_cons_zero, List.set_cons_succ]
              refine stepH 5 (by kernel_rfl) rfl (by rfl) (fun K hK => ?_)
              go_simp
              refine (c10.out _).mono ?_
              rintro e wq54 ⟨rfl, hq54⟩
              have E54 := GR.next E53 hq54
              have P54 := GR.tail E54
              refine hK.out _ _ ?_ (fun hHeld => ?_)
              · exact ⟨GR.c0 P54 (b := A) (x := X) (y := Y) (by simp), GR.c1 P54 (b := A) (x := X) (y := Y) (by simp), P54⟩
              clear hK K
              try simp only [Act.put, List.setIfInBounds_toArray, List.set_cons_zero, List.set_cons_succ]
              refine stepH 6 (by kernel_rfl) rfl (by rfl) (fun K hK => ?_)
              go_simp
              refine (c11.out _).mono ?_
              rintro e wq55 ⟨rfl, hq55⟩
              have E55 := GR.next E54 hq55
              have P55 := GR.tail E55
              refine hK.out _ _ ?_ (fun hHeld => ?_)
              · exact ⟨GR.c0 P55 (b := A) (x := X) (y := Y) (by simp), GR.c1 P55 (b := A) (x := X) (y := Y) (by simp), P55⟩
              clear hK K
              try simp only [Act.put, List.setIfInBounds_toArray, List.set_cons_zero, List.set_cons_succ]
              refine stepH 8 (by kernel_rfl) rfl (by rfl) (fun K hK => ?_)
              have d0 := (E55.1 _ (List.mem_cons_self ..)).cell 0 rfl
              have d1 := (E55.1 _ (List.mem_cons_self ..)).cell 1 rfl
              have f0 := (E55.1 _ (List.mem_cons_self ..)).free 0
              have f1 := (E55.1 _ (List.mem_cons_self ..)).free 1
              go_simp
              have HF : GR w _ ((_, z1, z2) :: [(DA, 0, 1), (DY, t1, t2), (DX, t1, t2), (C, X'', Y''), (B, X', Y'), (A, X, Y)]) := GR.put (x := z1) (y := z2) E55 F.1 F.2
              refine hK.out _ _ ?_ (fun hHeld => ?_)
              · first | exact ⟨GR.c0 (GR.tail HF) (b := A) (x := X) (y := Y) (by simp), GR.c1 (GR.tail HF) (b := A) (x := X) (y := Y) (by simp), (GR.tail HF)⟩ | exact ⟨GR.c0 (GR.alloc BS _) (b := A) (x := X) (y := Y) (by simp), GR.c1 (GR.alloc BS _) (b := A) (x := X) (y := Y) (by simp), (GR.alloc BS _)⟩
              clear hK K
              try simp only [Act.put, List.setIfInBounds_toArray, List.set_cons_zero, List.set_cons_succ]
              refine wpAnyH_done (by kernel_rfl) (NoPanic.normal ?_) _
              go_wp2_with fail
              go_meet
              first | exact ⟨_, rfl, HF⟩ | exact ⟨_, rfl, GR.new BS z1 z2⟩
          case' rest =>
            rename World => w10
            obtain ⟨DS, rfl, G10⟩ := hcut
            replace G10 := Lib.hid G10
            clear G9
          go_wp2_with fail
          refine wp_region_noPanic ?_
          refine wp_region_held_drew (S := fun w' => w'.cell? ⟨DX, 0, none⟩ = some (.int .u64 (t1)) ∧ w'.cell? ⟨DX, 1, none⟩ = some (.int .u64 (t2)) ∧ w'.cell? ⟨DY, 0, none⟩ = some (.int .u64 (t1)) ∧ w'.cell? ⟨DY, 1, none⟩ = some (.int .u64 (t2)) ∧ w'.cell? ⟨DA, 0, none⟩ = some (.int .u64 (0)) ∧ w'.cell? ⟨DA, 1, none⟩ = some (.int .u64 (1)) ∧ w'.cell? ⟨DS, 0, none⟩ = some (.int .u64 (z1)) ∧ w'.cell? ⟨DS, 1, none⟩ = some (.int .u64 (z2)) ∧ w'.cell? ⟨A, 0, none⟩ = some (.int .u64 (X)) ∧ w'.cell? ⟨A, 1, none⟩ = some (.int .u64 (Y)) ∧ GR w w' [(DS, z1, z2), (DA, 0, 1), (DY, t1, t2), (DX, t1, t2), (C, X'', Y''), (B, X', Y'), (A, X, Y)]) (by kernel_rfl) ?_ (fun hHeld => ?_)
          · exact ⟨GR.c0 (GR.drew G10.out) (b := DX) (x := t1) (y := t2) (by simp), GR.c1 (GR.drew G10.out) (b := DX) (x := t1) (y := t2) (by simp), GR.c0 (GR.drew G10.out) (b := DY) (x := t1) (y := t2) (by simp), GR.c1 (GR.drew G10.out) (b := DY) (x := t1) (y := t2) (by simp), GR.c0 (GR.drew G10.out) (b := DA) (x := 0) (y := 1) (by simp), GR.c1 (GR.drew G10.out) (b := DA) (x := 0) (y := 1) (by simp), GR.c0 (GR.drew G10.out) (b := DS) (x := z1) (y := z2) (by simp), GR.c1 (GR.drew G10.out) (b := DS) (x := z1) (y := z2) (by simp), GR.c0 (GR.drew G10.out) (b := A) (x := X) (y := Y) (by simp), GR.c1 (GR.drew G10.out) (b := A) (x := X) (y := Y) (by simp), (GR.drew G10.out)⟩
          refine takeH 0 (fun _ _ _ _ _ h => h) (by kernel_rfl) hHeld rfl (by kernel_rfl) (by rfl) (v := ?_) ?_ ?_
          rotate_left
          ((intro wz hz; (try dsimp only at hz); go_simp) <;> with_reducible rfl)
          try simp only [Act.put, List.setIfInBounds_toArray, List.set_cons_zero, List.set_cons_succ]
          refine takeH 1 (fun _ _ _ _ _ h => h) (by kernel_rfl) hHeld rfl (by kernel_rfl) (by rfl) (v := ?_) ?_ ?_
          rotate_left
          ((intro wz hz; (try dsimp only at hz); go_simp) <;> with_reducible rfl)
          try simp only [Act.put, List.setIfInBounds_toArray, List.set_cons_zero, List.set_cons_succ]
          refine takeH 2 (fun _ _ _ _ _ h => h) (by kernel_rfl) hHeld rfl (by kernel_rfl) (by rfl) (v := ?_) ?_ ?_
          rotate_left
          ((intro wz hz; (try dsimp only at hz); go_simp) <;> with_reducible rfl)
          try simp only [Act.put, List.setIfInBounds_toArray, List.set_cons_zero, List.set_cons_succ]
          refine takeH 3 (fun _ _ _ _ _ h => h) (by kernel_rfl) hHeld rfl (by kernel_rfl) (by rfl) (v := ?_) ?_ ?_
          rotate_left
          ((intro wz hz; (try dsimp only at hz); go_simp) <;> with_reducible rfl)
          try simp only [Act.put, List.setIfInBounds_toArray, List.set_cons_zero, List.set_cons_succ]
          refine takeH 4 (fun _ _ _ _ _ h => h) (by kernel_rfl) hHeld rfl (by kernel_rfl) (by rfl) (v := ?_) ?_ ?_
          rotate_left
          ((intro wz hz; (try dsimp only at hz); go_simp) <;> with_reducible rfl)
          try simp only [Act.put, List.setIfInBounds_toArray, List.set_cons_zero, List.set_cons_succ]
          refine takeH 5 (fun _ _ _ _ _ h => h) (by kernel_rfl) hHeld rfl (by kernel_rfl) (by rfl) (v := ?_) ?_ ?_
          rotate_left
          ((intro wz hz; (try dsimp only at hz); go_simp) <;> with_reducible rfl)
          try simp only [Act.put, List.setIfInBounds_toArray, List.set_cons_zero, List.set_cons_succ]
          refine takeH 6 (fun _ _ _ _ _ h => h) (by kernel_rfl) hHeld rfl (by kernel_rfl) (by rfl) (v := ?_) ?_ ?_
          rotate_left
          ((intro wz hz; (try dsimp only at hz); go_simp) <;> with_reducible rfl)
          try simp only [Act.put, List.setIfInBounds_toArray, List.set_cons_zero, List.set_cons_succ]
          refine takeH 7 (fun _ _ _ _ _ h => h) (by kernel_rfl) hHeld rfl (by kernel_rfl) (by rfl) (v := ?_) ?_ ?_
          rotate_left
          ((intro wz hz; (try dsimp only at hz); go_simp) <;> with_reducible rfl)
          try simp only [Act.put, List.setIfInBounds_toArray, List.set_cons_zero, List.set_cons_succ]
          refine stepH 8 (by kernel_rfl) rfl (by rfl) (fun K hK => ?_)
          go_simp
          refine (zero7 _).mono ?_
          rintro e wqH10 ⟨rfl, hqH10⟩
          have H10 := GR.next hHeld.2.2.2.2.2.2.2.2.2.2 hqH10
          refine hK.out _ _ ?_ (fun hHeld => ?_)
          · exact ⟨GR.c0 H10 (b := DX) (x := t1) (y := t2) (by simp), GR.c1 H10 (b := DX) (x := t1) (y := t2) (by simp), GR.c0 H10 (b := DY) (x := t1) (y := t2) (by simp), GR.c1 H10 (b := DY) (x := t1) (y := t2) (by simp), GR.c0 H10 (b := DA) (x := 0) (y := 1) (by simp), GR.c1 H10 (b := DA) (x := 0) (y := 1) (by simp), GR.c0 H10 (b := DS) (x := z1) (y := z2) (by simp), GR.c1 H10 (b := DS) (x := z1) (y := z2) (by simp), GR.c0 H10 (b := A) (x := X) (y := Y) (by simp), GR.c1 H10 (b := A) (x := X) (y := Y) (by simp), H10⟩
          clear hK K
          try simp only [Act.put, List.setIfInBounds_toArray, List.set_cons_zero, List.set_cons_succ]
          refine takeH 9 (fun _ _ _ _ _ h => h) (by kernel_rfl) hHeld rfl (by kernel_rfl) (by rfl) (v := ?_) ?_ ?_
          rotate_left
          ((intro wz hz; (try dsimp only at hz); go_simp) <;> with_reducible rfl)
          try simp only [Act.put, List.setIfInBounds_toArray, List.set_cons_zero, List.set_cons_succ]
          refine takeH 10 (fun _ _ _ _ _ h => h) (by kernel_rfl) hHeld rfl (by kernel_rfl) (by rfl) (v := ?_) ?_ ?_
          rotate_left
          ((intro wz hz; (try dsimp only at hz); go_simp) <;> with_reducible rfl)
          try simp only [Act.put, List.setIfInBounds_toArray, List.set_cons_zero, List.set_cons_succ]
          refine takeH 11 (fun _ _ _ _ _ h => h) (by kernel_rfl) hHeld rfl (by kernel_rfl) (by rfl) (v := ?_) ?_ ?_
          rotate_left
          ((intro wz hz; (try dsimp only at hz); go_simp) <;> with_reducible rfl)
          try simp only [Act.put, List.setIfInBounds_toArray, List.set_cons_zero, List.set_cons_succ]
          refine takeH 12 (fun _ _ _ _ _ h => h) (by kernel_rfl) hHeld rfl (by kernel_rfl) (by rfl) (v := ?_) ?_ ?_
          rotate_left
          ((intro wz hz; (try dsimp only at hz); go_simp) <;> with_reducible rfl)
          try simp only [Act.put, List.setIfInBounds_toArray, List.set_cons_zero, List.set_cons_succ]
          refine takeH 13 (fun _ _ _ _ _ h => h) (by kernel_rfl) hHeld rfl (by kernel_rfl) (by rfl) (v := ?_) ?_ ?_
          rotate_left
          ((intro wz hz; (try dsimp only at hz); go_simp) <;> with_reducible rfl)
          try simp only [Act.put, List.setIfInBounds_toArray, List.set_cons_zero, List.set_cons_succ]
          refine takeH 14 (fun _ _ _ _ _ h => h) (by kernel_rfl) hHeld rfl (by kernel_rfl) (by rfl) (v := ?_) ?_ ?_
          rotate_left
          ((intro wz hz; (try dsimp only at hz); go_simp) <;> with_reducible rfl)
          try simp only [Act.put, List.setIfInBounds_toArray, List.set_cons_zero, List.set_cons_succ]
          refine takeH 15 (fun _ _ _ _ _ h => h) (by kernel_rfl) hHeld rfl (by kernel_rfl) (by rfl) (v := ?_) ?_ ?_
          rotate_left
          ((intro wz hz; (try dsimp only at hz); go_simp) <;> with_reducible rfl)
          try simp only [Act.put, List.setIfInBounds_toArray, List.set_cons_zero, List.set_cons_succ]
          refine takeH 16 (fun _ _ _ _ _ h => h) (by kernel_rfl) hHeld rfl (by kernel_rfl) (by rfl) (v := ?_) ?_ ?_
          rotate_left
          ((intro wz hz; (try dsimp only at hz); go_simp) <;> with_reducible rfl)
          try simp only [Act.put, List.setIfInBounds_toArray, List.set_cons_zero, List.set_cons_succ]
          refine takeH 17 (fun _ _ _ _ _ h => h) (by kernel_rfl) hHeld rfl (by kernel_rfl) (by rfl) (v := ?_) ?_ ?_
          rotate_left
          ((intro wz hz; (try dsimp only at hz); go_simp) <;> with_reducible rfl)
          try simp only [Act.put, List.setIfInBounds_toArray, List.set_cons_zero, List.set_cons_succ]
          refine takeH 18 (fun _ _ _ _ _ h => h) (by kernel_rfl) hHeld rfl (by kernel_rfl) (by rfl) (v := ?_) ?_ ?_
          rotate_left
          ((intro wz hz; (try dsimp only at hz); go_simp) <;> with_reducible rfl)
          try simp only [Act.put, List.setIfInBounds_toArray, List.set_cons_zero, List.set_cons_succ]
          refine takeH 19 (fun _ _ _ _ _ h => h) (by kernel_rfl) hHeld rfl (by kernel_rfl) (by rfl) (v := ?_) ?_ ?_
          rotate_left
          ((intro wz hz; (try dsimp only at hz); go_simp) <;> with_reducible rfl)
          try simp only [Act.put, List.setIfInBounds_toArray, List.set_cons_zero, List.set_cons_succ]
          refine stepH 20 (by kernel_rfl) rfl (by rfl) (fun K hK => ?_)
          go_simp
          refine (c12.out hsum _).mono ?_
          rintro e wqH11 ⟨rfl, hqH11⟩
          have H11 := GR.next hHeld.2.2.2.2.2.2.2.2.2.2 hqH11
          refine hK.out _ _ ?_ (fun hHeld => ?_)
          · exact ⟨GR.c0 H11 (b := DX) (x := t1) (y := t2) (by simp), GR.c1 H11 (b := DX) (x := t1) (y := t2) (by simp), GR.c0 H11 (b := DY) (x := t1) (y := t2) (by simp), GR.c1 H11 (b := DY) (x := t1) (y := t2) (by simp), GR.c0 H11 (b := DA) (x := 0) (y := 1) (by simp), GR.c1 H11 (b := DA) (x := 0) (y := 1) (by simp), GR.c0 H11 (b := DS) (x := z1) (y := z2) (by simp), GR.c1 H11 (b := DS) (x := z1) (y := z2) (by simp), GR.c0 H11 (b := A) (x := X) (y := Y) (by simp), GR.c1 H11 (b := A) (x := X) (y := Y) (by simp), H11⟩
          clear hK K
          try simp only [Act.put, List.setIfInBounds_toArray, List.set_cons_zero, List.set_cons_succ]
          refine takeH 21 (fun _ _ _ _ _ h => h) (by kernel_rfl) hHeld rfl (by kernel_rfl) (by rfl) (v := ?_) ?_ ?_
          rotate_left
          ((intro wz hz; (try dsimp only at hz); go_simp) <;> with_reducible rfl)
          try simp only [Act.put, List.setIfInBounds_toArray, List.set_cons_zero, List.set_cons_succ]
          refine takeH 22 (fun _ _ _ _ _ h => h) (by kernel_rfl) hHeld rfl (by kernel_rfl) (by rfl) (v := ?_) ?_ ?_
          rotate_left
          ((intro wz hz; (try dsimp only at hz); go_simp) <;> with_reducible rfl)
          try simp only [Act.put, List.setIfInBounds_toArray, List.set_cons_zero, List.set_cons_succ]
          refine takeH 23 (fun _ _ _ _ _ h => h) (by kernel_rfl) hHeld rfl (by kernel_rfl) (by rfl) (v := ?_) ?_ ?_
          rotate_left
          ((intro wz hz; (try dsimp only at hz); go_simp) <;> with_reducible rfl)
          try simp only [Act.put, List.setIfInBounds_toArray, List.set_cons_zero, List.set_cons_succ]
          refine wpAnyH_done (by kernel_rfl) (NoPanic.normal ?_) _
          go_wp2
          go_ret
          exact ⟨rfl, (hHeld.2.2.2.2.2.2.2.2.2.2).2⟩

end Go.Proofs.YtcdfpceagobicaaDoor
