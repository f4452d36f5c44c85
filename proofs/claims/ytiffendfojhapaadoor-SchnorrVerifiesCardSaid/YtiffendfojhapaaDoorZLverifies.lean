import Derived.Test.YtiffendfojhapaaDoorZWup9
import Derived.Test.YtiffendfojhapaaDoorZLsums
import Derived.Test.YtiffendfojhapaaDoorZLturns
set_option linter.unusedVariables false
set_option linter.unusedSimpArgs false
/- The walk of the law SchnorrVerifies. -/
namespace Go.Proofs.YtiffendfojhapaaDoor
open Go.RowKit

set_option maxRecDepth 8000 in
set_option maxHeartbeats 4000000 in
theorem walkVerifies (w : World) (hG : RowsAt w) (x y : Int) (ao : Option Addr) (len cap : Nat) (M : List Nat) (H : B8 len M) (hl : len ≤ cap) (hc : cap ≤ 9223372036854775807) (hn : ao = none → len = 0 ∧ cap = 0) (hb : 0 < len → ∃ b o, ao = some ⟨b, o, none⟩ ∧ BL w b o M) (ax ay z : Int) (x0 : 0 ≤ x) (y0 : 0 ≤ y) (ax0 : 0 ≤ ax) (ay0 : 0 ≤ ay) (z0 : 0 ≤ z) (z1 : z ≤ 18446744073709551615) :
    Calls Tryd.prog 7 #[edV x y, .slice ao len cap, .agg #[.int .u64 ax, .int .u64 ay, .int .u64 z]] w fun e w' => e = .returned (.bool true) ∧ Below w.heap.size w w' := by
  have hU := Lib.hid (fun W hw => up9 W (hG.below hw))
  have hS := Lib.hid (sl_of H hl hc hn hb)
  have hG' := Lib.hid hG
  replace H := Lib.hid H
  have hlc : (len : Int) ≤ (cap : Int) := by omega
  have hcm : (cap : Int) ≤ 9223372036854775807 := by omega
  have hE := fun W => eqErrC W 10 10
  clear hn hb hG
  by_cases h2 : 2000 < len
  · have h2' : (2000 : Int) < (len : Int) := by omega
    go_enter Tryd.func7, Tryd.ntmps7
    go_wp2_with fail
    have H0 := Lib.hid (((HR.refl w).new #[.int .u64 x, .int .u64 y] 37).new #[.int .u64 ax, .int .u64 ay, .int .u64 z] 44)
    rw [World.size_alloc] at H0
    generalize (w.alloc (.cells #[.int .u64 x, .int .u64 y] 37)).alloc (.cells #[.int .u64 ax, .int .u64 ay, .int .u64 z] 44) = w0 at H0 ⊢
    generalize w.heap.size + 1 = b5 at H0 ⊢
    generalize w.heap.size = b3 at H0 ⊢
    refine (hU.out _ H0.out.2).mono ?_
    rintro e w1 ⟨rfl, hb1⟩
    have H1 := Lib.hid (H0.out.next hb1)
    clear hb1 H0
    have c_b5_0 := H1.out.cell (b := b5) (cs := #[.int .u64 ax, .int .u64 ay, .int .u64 z]) (t := 44) (by simp) 0 rfl
    have c_b5_1 := H1.out.cell (b := b5) (cs := #[.int .u64 ax, .int .u64 ay, .int .u64 z]) (t := 44) (by simp) 1 rfl
    have c_b5_2 := H1.out.cell (b := b5) (cs := #[.int .u64 ax, .int .u64 ay, .int .u64 z]) (t := 44) (by simp) 2 rfl
    have c_b3_0 := H1.out.cell (b := b3) (cs := #[.int .u64 x, .int .u64 y]) (t := 37) (by simp) 0 rfl
    have c_b3_1 := H1.out.cell (b := b3) (cs := #[.int .u64 x, .int .u64 y]) (t := 37) (by simp) 1 rfl
    go_wp2_with fail
    go_ret
    exact ⟨rfl, H1.out.2⟩
  have h2' : (len : Int) ≤ 2000 := by omega
  have h2n : len ≤ 2000 := by omega
  by_cases hx : x = 0 ∧ y = 1
  · obtain ⟨rfl, rfl⟩ := hx
    have cV := Lib.hid (fun W => sVerZ 0 1 ax ay z x0 y0 ax0 ay0 z0 z1 ao len cap ⟨rfl, rfl⟩ W)
    go_enter Tryd.func7, Tryd.ntmps7
    go_wp2_with fail
    have H0 := Lib.hid (((HR.refl w).new #[.int .u64 0, .int .u64 1] 37).new #[.int .u64 ax, .int .u64 ay, .int .u64 z] 44)
    rw [World.size_alloc] at H0
    generalize (w.alloc (.cells #[.int .u64 0, .int .u64 1] 37)).alloc (.cells #[.int .u64 ax, .int .u64 ay, .int .u64 z] 44) = w0 at H0 ⊢
    generalize w.heap.size + 1 = b5 at H0 ⊢
    generalize w.heap.size = b3 at H0 ⊢
    refine (hU.out _ H0.out.2).mono ?_
    rintro e w1 ⟨rfl, hb1⟩
    have H1 := Lib.hid (H0.out.next hb1)
    clear hb1 H0
    have c_b5_0 := H1.out.cell (b := b5) (cs := #[.int .u64 ax, .int .u64 ay, .int .u64 z]) (t := 44) (by simp) 0 rfl
    have c_b5_1 := H1.out.cell (b := b5) (cs := #[.int .u64 ax, .int .u64 ay, .int .u64 z]) (t := 44) (by simp) 1 rfl
    have c_b5_2 := H1.out.cell (b := b5) (cs := #[.int .u64 ax, .int .u64 ay, .int .u64 z]) (t := 44) (by simp) 2 rfl
    have c_b3_0 := H1.out.cell (b := b3) (cs := #[.int .u64 0, .int .u64 1]) (t := 37) (by simp) 0 rfl
    have c_b3_1 := H1.out.cell (b := b3) (cs := #[.int .u64 0, .int .u64 1]) (t := 37) (by simp) 1 rfl
    go_wp2_with fail
    refine (cV.out _).mono ?_
    rintro e v2 ⟨rfl, hv2⟩
    have K2 := Lib.hid (H1.out.next hv2)
    clear c_b5_0 c_b5_1 c_b5_2 c_b3_0 c_b3_1
    clear hv2 H1
    have c_b5_0 := K2.out.cell (b := b5) (cs := #[.int .u64 ax, .int .u64 ay, .int .u64 z]) (t := 44) (by simp) 0 rfl
    have c_b5_1 := K2.out.cell (b := b5) (cs := #[.int .u64 ax, .int .u64 ay, .int .u64 z]) (t := 44) (by simp) 1 rfl
    have c_b5_2 := K2.out.cell (b := b5) (cs := #[.int .u64 ax, .int .u64 ay, .int .u64 z]) (t := 44) (by simp) 2 rfl
    have c_b3_0 := K2.out.cell (b := b3) (cs := #[.int .u64 0, .int .u64 1]) (t := 37) (by simp) 0 rfl
    have c_b3_1 := K2.out.cell (b := b3) (cs := #[.int .u64 0, .int .u64 1]) (t := 37) (by simp) 1 rfl
    go_wp2_with fail
    go_ret
    exact ⟨rfl, K2.out.2⟩
  have hnz := Lib.hid hx
  by_cases hx0 : x = 0
  · have hy1 : ¬ y = 1 := fun h => hx ⟨hx0, h⟩
    subst hx0
    clear hx
    have cIP := fun w => r7In 0 y x0 y0 w
    have cIA := fun w => r7In ax ay ax0 ay0 w
    cases hP : inN ((0 : Int).toNat, (y : Int).toNat)
    · rw [hP] at cIP
      replace cIP := Lib.hid cIP
      cases hA : inN (ax.toNat, ay.toNat)
      · have cV := Lib.hid (fun W => sVerA 0 y ax ay z x0 y0 ax0 ay0 z0 z1 ao len cap hnz.out hA W)
        clear hA hP cIA
        go_enter Tryd.func7, Tryd.ntmps7
        go_wp2_with fail
        have H0 := Lib.hid (((HR.refl w).new #[.int .u64 0, .int .u64 y] 37).new #[.int .u64 ax, .int .u64 ay, .int .u64 z] 44)
        rw [World.size_alloc] at H0
        generalize (w.alloc (.cells #[.int .u64 0, .int .u64 y] 37)).alloc (.cells #[.int .u64 ax, .int .u64 ay, .int .u64 z] 44) = w0 at H0 ⊢
        generalize w.heap.size + 1 = b5 at H0 ⊢
        generalize w.heap.size = b3 at H0 ⊢
        refine (hU.out _ H0.out.2).mono ?_
        rintro e w1 ⟨rfl, hb1⟩
        have H1 := Lib.hid (H0.out.next hb1)
        clear hb1 H0
        have c_b5_0 := H1.out.cell (b := b5) (cs := #[.int .u64 ax, .int .u64 ay, .int .u64 z]) (t := 44) (by simp) 0 rfl
        have c_b5_1 := H1.out.cell (b := b5) (cs := #[.int .u64 ax, .int .u64 ay, .int .u64 z]) (t := 44) (by simp) 1 rfl
        have c_b5_2 := H1.out.cell (b := b5) (cs := #[.int .u64 ax, .int .u64 ay, .int .u64 z]) (t := 44) (by simp) 2 rfl
        have c_b3_0 := H1.out.cell (b := b3) (cs := #[.int .u64 0, .int .u64 y]) (t := 37) (by simp) 0 rfl
        have c_b3_1 := H1.out.cell (b := b3) (cs := #[.int .u64 0, .int .u64 y]) (t := 37) (by simp) 1 rfl
        go_wp2_with fail
        refine (cV.out _).mono ?_
        rintro e v2 ⟨rfl, hv2⟩
        have K2 := Lib.hid (H1.out.next hv2)
        clear c_b5_0 c_b5_1 c_b5_2 c_b3_0 c_b3_1
        clear hv2 H1
        have c_b5_0 := K2.out.cell (b := b5) (cs := #[.int .u64 ax, .int .u64 ay, .int .u64 z]) (t := 44) (by simp) 0 rfl
        have c_b5_1 := K2.out.cell (b := b5) (cs := #[.int .u64 ax, .int .u64 ay, .int .u64 z]) (t := 44) (by simp) 1 rfl
        have c_b5_2 := K2.out.cell (b := b5) (cs := #[.int .u64 ax, .int .u64 ay, .int .u64 z]) (t := 44) (by simp) 2 rfl
        have c_b3_0 := K2.out.cell (b := b3) (cs := #[.int .u64 0, .int .u64 y]) (t := 37) (by simp) 0 rfl
        have c_b3_1 := K2.out.cell (b := b3) (cs := #[.int .u64 0, .int .u64 y]) (t := 37) (by simp) 1 rfl
        go_wp2_with fail
        refine (cIP.out _).mono ?_
        rintro e v3 ⟨rfl, hv3⟩
        have K3 := Lib.hid (K2.out.next hv3)
        clear c_b5_0 c_b5_1 c_b5_2 c_b3_0 c_b3_1
        clear hv3 K2
        have c_b5_0 := K3.out.cell (b := b5) (cs := #[.int .u64 ax, .int .u64 ay, .int .u64 z]) (t := 44) (by simp) 0 rfl
        have c_b5_1 := K3.out.cell (b := b5) (cs := #[.int .u64 ax, .int .u64 ay, .int .u64 z]) (t := 44) (by simp) 1 rfl
        have c_b5_2 := K3.out.cell (b := b5) (cs := #[.int .u64 ax, .int .u64 ay, .int .u64 z]) (t := 44) (by simp) 2 rfl
        have c_b3_0 := K3.out.cell (b := b3) (cs := #[.int .u64 0, .int .u64 y]) (t := 37) (by simp) 0 rfl
        have c_b3_1 := K3.out.cell (b := b3) (cs := #[.int .u64 0, .int .u64 y]) (t := 37) (by simp) 1 rfl
        go_wp2_with fail
        go_ret
        exact ⟨rfl, K3.out.2⟩
      · have cV := Lib.hid (fun W => sVerP 0 y ax ay z x0 y0 ax0 ay0 z0 z1 ao len cap hnz.out hA hP W)
        clear hA hP cIA
        go_enter Tryd.func7, Tryd.ntmps7
        go_wp2_with fail
        have H0 := Lib.hid (((HR.refl w).new #[.int .u64 0, .int .u64 y] 37).new #[.int .u64 ax, .int .u64 ay, .int .u64 z] 44)
        rw [World.size_alloc] at H0
        generalize (w.alloc (.cells #[.int .u64 0, .int .u64 y] 37)).alloc (.cells #[.int .u64 ax, .int .u64 ay, .int .u64 z] 44) = w0 at H0 ⊢
        generalize w.heap.size + 1 = b5 at H0 ⊢
        generalize w.heap.size = b3 at H0 ⊢
        refine (hU.out _ H0.out.2).mono ?_
        rintro e w1 ⟨rfl, hb1⟩
        have H1 := Lib.hid (H0.out.next hb1)
        clear hb1 H0
        have c_b5_0 := H1.out.cell (b := b5) (cs := #[.int .u64 ax, .int .u64 ay, .int .u64 z]) (t := 44) (by simp) 0 rfl
        have c_b5_1 := H1.out.cell (b := b5) (cs := #[.int .u64 ax, .int .u64 ay, .int .u64 z]) (t := 44) (by simp) 1 rfl
        have c_b5_2 := H1.out.cell (b := b5) (cs := #[.int .u64 ax, .int .u64 ay, .int .u64 z]) (t := 44) (by simp) 2 rfl
        have c_b3_0 := H1.out.cell (b := b3) (cs := #[.int .u64 0, .int .u64 y]) (t := 37) (by simp) 0 rfl
        have c_b3_1 := H1.out.cell (b := b3) (cs := #[.int .u64 0, .int .u64 y]) (t := 37) (by simp) 1 rfl
        go_wp2_with fail
        refine (cV.out _).mono ?_
        rintro e v2 ⟨rfl, hv2⟩
        have K2 := Lib.hid (H1.out.next hv2)
        clear c_b5_0 c_b5_1 c_b5_2 c_b3_0 c_b3_1
        clear hv2 H1
        have c_b5_0 := K2.out.cell (b := b5) (cs := #[.int .u64 ax, .int .u64 ay, .int .u64 z]) (t := 44) (by simp) 0 rfl
        have c_b5_1 := K2.out.cell (b := b5) (cs := #[.int .u64 ax, .int .u64 ay, .int .u64 z]) (t := 44) (by simp) 1 rfl
        have c_b5_2 := K2.out.cell (b := b5) (cs := #[.int .u64 ax, .int .u64 ay, .int .u64 z]) (t := 44) (by simp) 2 rfl
        have c_b3_0 := K2.out.cell (b := b3) (cs := #[.int .u64 0, .int .u64 y]) (t := 37) (by simp) 0 rfl
        have c_b3_1 := K2.out.cell (b := b3) (cs := #[.int .u64 0, .int .u64 y]) (t := 37) (by simp) 1 rfl
        go_wp2_with fail
        refine (cIP.out _).mono ?_
        rintro e v3 ⟨rfl, hv3⟩
        have K3 := Lib.hid (K2.out.next hv3)
        clear c_b5_0 c_b5_1 c_b5_2 c_b3_0 c_b3_1
        clear hv3 K2
        have c_b5_0 := K3.out.cell (b := b5) (cs := #[.int .u64 ax, .int .u64 ay, .int .u64 z]) (t := 44) (by simp) 0 rfl
        have c_b5_1 := K3.out.cell (b := b5) (cs := #[.int .u64 ax, .int .u64 ay, .int .u64 z]) (t := 44) (by simp) 1 rfl
        have c_b5_2 := K3.out.cell (b := b5) (cs := #[.int .u64 ax, .int .u64 ay, .int .u64 z]) (t := 44) (by simp) 2 rfl
        have c_b3_0 := K3.out.cell (b := b3) (cs := #[.int .u64 0, .int .u64 y]) (t := 37) (by simp) 0 rfl
        have c_b3_1 := K3.out.cell (b := b3) (cs := #[.int .u64 0, .int .u64 y]) (t := 37) (by simp) 1 rfl
        go_wp2_with fail
        go_ret
        exact ⟨rfl, K3.out.2⟩
    · rw [hP] at cIP
      replace cIP := Lib.hid cIP
      cases hA : inN (ax.toNat, ay.toNat)
      · rw [hA] at cIA
        replace cIA := Lib.hid cIA
        have cV := Lib.hid (fun W => sVerA 0 y ax ay z x0 y0 ax0 ay0 z0 z1 ao len cap hnz.out hA W)
        clear hA hP
        go_enter Tryd.func7, Tryd.ntmps7
        go_wp2_with fail
        have H0 := Lib.hid (((HR.refl w).new #[.int .u64 0, .int .u64 y] 37).new #[.int .u64 ax, .int .u64 ay, .int .u64 z] 44)
        rw [World.size_alloc] at H0
        generalize (w.alloc (.cells #[.int .u64 0, .int .u64 y] 37)).alloc (.cells #[.int .u64 ax, .int .u64 ay, .int .u64 z] 44) = w0 at H0 ⊢
        generalize w.heap.size + 1 = b5 at H0 ⊢
        generalize w.heap.size = b3 at H0 ⊢
        refine (hU.out _ H0.out.2).mono ?_
        rintro e w1 ⟨rfl, hb1⟩
        have H1 := Lib.hid (H0.out.next hb1)
        clear hb1 H0
        have c_b5_0 := H1.out.cell (b := b5) (cs := #[.int .u64 ax, .int .u64 ay, .int .u64 z]) (t := 44) (by simp) 0 rfl
        have c_b5_1 := H1.out.cell (b := b5) (cs := #[.int .u64 ax, .int .u64 ay, .int .u64 z]) (t := 44) (by simp) 1 rfl
        have c_b5_2 := H1.out.cell (b := b5) (cs := #[.int .u64 ax, .int .u64 ay, .int .u64 z]) (t := 44) (by simp) 2 rfl
        have c_b3_0 := H1.out.cell (b := b3) (cs := #[.int .u64 0, .int .u64 y]) (t := 37) (by simp) 0 rfl
        have c_b3_1 := H1.out.cell (b := b3) (cs := #[.int .u64 0, .int .u64 y]) (t := 37) (by simp) 1 rfl
        go_wp2_with fail
        refine (cV.out _).mono ?_
        rintro e v2 ⟨rfl, hv2⟩
        have K2 := Lib.hid (H1.out.next hv2)
        clear c_b5_0 c_b5_1 c_b5_2 c_b3_0 c_b3_1
        clear hv2 H1
        have c_b5_0 := K2.out.cell (b := b5) (cs := #[.int .u64 ax, .int .u64 ay, .int .u64 z]) (t := 44) (by simp) 0 rfl
        have c_b5_1 := K2.out.cell (b := b5) (cs := #[.int .u64 ax, .int .u64 ay, .int .u64 z]) (t := 44) (by simp) 1 rfl
        have c_b5_2 := K2.out.cell (b := b5) (cs := #[.int .u64 ax, .int .u64 ay, .int .u64 z]) (t := 44) (by simp) 2 rfl
        have c_b3_0 := K2.out.cell (b := b3) (cs := #[.int .u64 0, .int .u64 y]) (t := 37) (by simp) 0 rfl
        have c_b3_1 := K2.out.cell (b := b3) (cs := #[.int .u64 0, .int .u64 y]) (t := 37) (by simp) 1 rfl
        go_wp2_with fail
        refine (cIP.out _).mono ?_
        rintro e v3 ⟨rfl, hv3⟩
        have K3 := Lib.hid (K2.out.next hv3)
        clear c_b5_0 c_b5_1 c_b5_2 c_b3_0 c_b3_1
        clear hv3 K2
        have c_b5_0 := K3.out.cell (b := b5) (cs := #[.int .u64 ax, .int .u64 ay, .int .u64 z]) (t := 44) (by simp) 0 rfl
        have c_b5_1 := K3.out.cell (b := b5) (cs := #[.int .u64 ax, .int .u64 ay, .int .u64 z]) (t := 44) (by simp) 1 rfl
        have c_b5_2 := K3.out.cell (b := b5) (cs := #[.int .u64 ax, .int .u64 ay, .int .u64 z]) (t := 44) (by simp) 2 rfl
        have c_b3_0 := K3.out.cell (b := b3) (cs := #[.int .u64 0, .int .u64 y]) (t := 37) (by simp) 0 rfl
        have c_b3_1 := K3.out.cell (b := b3) (cs := #[.int .u64 0, .int .u64 y]) (t := 37) (by simp) 1 rfl
        go_wp2_with fail
        refine (cIA.out _).mono ?_
        rintro e v4 ⟨rfl, hv4⟩
        have K4 := Lib.hid (K3.out.next hv4)
        clear c_b5_0 c_b5_1 c_b5_2 c_b3_0 c_b3_1
        clear hv4 K3
        have c_b5_0 := K4.out.cell (b := b5) (cs := #[.int .u64 ax, .int .u64 ay, .int .u64 z]) (t := 44) (by simp) 0 rfl
        have c_b5_1 := K4.out.cell (b := b5) (cs := #[.int .u64 ax, .int .u64 ay, .int .u64 z]) (t := 44) (by simp) 1 rfl
        have c_b5_2 := K4.out.cell (b := b5) (cs := #[.int .u64 ax, .int .u64 ay, .int .u64 z]) (t := 44) (by simp) 2 rfl
        have c_b3_0 := K4.out.cell (b := b3) (cs := #[.int .u64 0, .int .u64 y]) (t := 37) (by simp) 0 rfl
        have c_b3_1 := K4.out.cell (b := b3) (cs := #[.int .u64 0, .int .u64 y]) (t := 37) (by simp) 1 rfl
        go_wp2_with fail
        go_ret
        exact ⟨rfl, K4.out.2⟩
      · rw [hA] at cIA
        replace cIA := Lib.hid cIA
        by_cases hz : z < 72057593894066549
        · obtain ⟨A, hvA, hSA⟩ := in_pt ax0 ay0 hA
          obtain ⟨P, hvP, hSP⟩ := in_pt x0 y0 hP
          have cQ := fun W (hw : Below w.heap.size w W) => lQues ax ay 0 y ax0 ay0 x0 y0 A P hvA hvP ao len cap M H.out (by omega) W (hS.out.at hw)
          have hqlt := quesP_lt A P M
          have cT1 := fun w => rTimesG z z0 z1 w
          have cVY := fun h W (hw : Below w.heap.size w W) => sVerY 0 y ax ay z x0 y0 ax0 ay0 z0 z1 ao len cap hnz.out A P hvA hvP hSA hSP hz M H.out (by omega) h W (hS.out.at hw) (hG'.out.below hw)
          have cVN := fun h W (hw : Below w.heap.size w W) => sVerN 0 y ax ay z x0 y0 ax0 ay0 z0 z1 ao len cap hnz.out A P hvA hvP hSA hSP hz M H.out (by omega) h W (hS.out.at hw) (hG'.out.below hw)
          generalize Obol.quesP A P M = q0 at cQ hqlt cVY cVN
          obtain ⟨q, hq⟩ : ∃ q : Int, ((q0 : Nat) : Int) = q := ⟨_, rfl⟩
          rw [hq] at cQ
          have cT2 := fun w => rTimes 0 y q x0 y0 (by omega) (by omega) P hvP w
          rw [show q.toNat = q0 by omega] at cT2
          obtain ⟨mx, my, mx0, my0, -, -, hvM, -⟩ := coordsN (Obol.Pnt.smul q0 P)
          have cSum := fun w => rSum ax ay mx my ax0 ay0 mx0 my0 A _ hvA hvM w
          obtain ⟨sx, sy, -, -, -, -, hvS, hnS⟩ := coordsN (A.add (Obol.Pnt.smul q0 P))
          rw [hvM] at cT2
          rw [hvS] at cSum
          replace cQ := Lib.hid cQ
          replace cT2 := Lib.hid cT2
          replace cSum := Lib.hid cSum
          by_cases hC : Obol.Pnt.smul z.toNat Obol.G = A.add (Obol.Pnt.smul q0 P)
          · have cV := Lib.hid (cVY hC)
            rw [hC, hvS] at cT1
            replace cT1 := Lib.hid cT1
            clear hC cVY cVN hvS hnS hvM hq hqlt hvA hSA hvP hSP hA hP
            go_enter Tryd.func7, Tryd.ntmps7
            go_wp2_with fail
            have H0 := Lib.hid (((HR.refl w).new #[.int .u64 0, .int .u64 y] 37).new #[.int .u64 ax, .int .u64 ay, .int .u64 z] 44)
            rw [World.size_alloc] at H0
            generalize (w.alloc (.cells #[.int .u64 0, .int .u64 y] 37)).alloc (.cells #[.int .u64 ax, .int .u64 ay, .int .u64 z] 44) = w0 at H0 ⊢
            generalize w.heap.size + 1 = b5 at H0 ⊢
            generalize w.heap.size = b3 at H0 ⊢
            refine (hU.out _ H0.out.2).mono ?_
            rintro e w1 ⟨rfl, hb1⟩
            have H1 := Lib.hid (H0.out.next hb1)
            clear hb1 H0
            have c_b5_0 := H1.out.cell (b := b5) (cs := #[.int .u64 ax, .int .u64 ay, .int .u64 z]) (t := 44) (by simp) 0 rfl
            have c_b5_1 := H1.out.cell (b := b5) (cs := #[.int .u64 ax, .int .u64 ay, .int .u64 z]) (t := 44) (by simp) 1 rfl
            have c_b5_2 := H1.out.cell (b := b5) (cs := #[.int .u64 ax, .int .u64 ay, .int .u64 z]) (t := 44) (by simp) 2 rfl
            have c_b3_0 := H1.out.cell (b := b3) (cs := #[.int .u64 0, .int .u64 y]) (t := 37) (by simp) 0 rfl
            have c_b3_1 := H1.out.cell (b := b3) (cs := #[.int .u64 0, .int .u64 y]) (t := 37) (by simp) 1 rfl
            go_wp2_with fail
            refine (cV.out _ H1.out.2).mono ?_
            rintro e v2 ⟨rfl, hv2⟩
            have K2 := Lib.hid (H1.out.next hv2)
            clear c_b5_0 c_b5_1 c_b5_2 c_b3_0 c_b3_1
            clear hv2 H1
            have c_b5_0 := K2.out.cell (b := b5) (cs := #[.int .u64 ax, .int .u64 ay, .int .u64 z]) (t := 44) (by simp) 0 rfl
            have c_b5_1 := K2.out.cell (b := b5) (cs := #[.int .u64 ax, .int .u64 ay, .int .u64 z]) (t := 44) (by simp) 1 rfl
            have c_b5_2 := K2.out.cell (b := b5) (cs := #[.int .u64 ax, .int .u64 ay, .int .u64 z]) (t := 44) (by simp) 2 rfl
            have c_b3_0 := K2.out.cell (b := b3) (cs := #[.int .u64 0, .int .u64 y]) (t := 37) (by simp) 0 rfl
            have c_b3_1 := K2.out.cell (b := b3) (cs := #[.int .u64 0, .int .u64 y]) (t := 37) (by simp) 1 rfl
            go_wp2_with fail
            refine (cIP.out _).mono ?_
            rintro e v3 ⟨rfl, hv3⟩
            have K3 := Lib.hid (K2.out.next hv3)
            clear c_b5_0 c_b5_1 c_b5_2 c_b3_0 c_b3_1
            clear hv3 K2
            have c_b5_0 := K3.out.cell (b := b5) (cs := #[.int .u64 ax, .int .u64 ay, .int .u64 z]) (t := 44) (by simp) 0 rfl
            have c_b5_1 := K3.out.cell (b := b5) (cs := #[.int .u64 ax, .int .u64 ay, .int .u64 z]) (t := 44) (by simp) 1 rfl
            have c_b5_2 := K3.out.cell (b := b5) (cs := #[.int .u64 ax, .int .u64 ay, .int .u64 z]) (t := 44) (by simp) 2 rfl
            have c_b3_0 := K3.out.cell (b := b3) (cs := #[.int .u64 0, .int .u64 y]) (t := 37) (by simp) 0 rfl
            have c_b3_1 := K3.out.cell (b := b3) (cs := #[.int .u64 0, .int .u64 y]) (t := 37) (by simp) 1 rfl
            go_wp2_with fail
            refine (cIA.out _).mono ?_
            rintro e v4 ⟨rfl, hv4⟩
            have K4 := Lib.hid (K3.out.next hv4)
            clear c_b5_0 c_b5_1 c_b5_2 c_b3_0 c_b3_1
            clear hv4 K3
            have c_b5_0 := K4.out.cell (b := b5) (cs := #[.int .u64 ax, .int .u64 ay, .int .u64 z]) (t := 44) (by simp) 0 rfl
            have c_b5_1 := K4.out.cell (b := b5) (cs := #[.int .u64 ax, .int .u64 ay, .int .u64 z]) (t := 44) (by simp) 1 rfl
            have c_b5_2 := K4.out.cell (b := b5) (cs := #[.int .u64 ax, .int .u64 ay, .int .u64 z]) (t := 44) (by simp) 2 rfl
            have c_b3_0 := K4.out.cell (b := b3) (cs := #[.int .u64 0, .int .u64 y]) (t := 37) (by simp) 0 rfl
            have c_b3_1 := K4.out.cell (b := b3) (cs := #[.int .u64 0, .int .u64 y]) (t := 37) (by simp) 1 rfl
            go_wp2_with fail
            refine (cQ.out _ K4.out.2).mono ?_
            rintro e v5 ⟨rfl, hv5⟩
            have K5 := Lib.hid (K4.out.next hv5)
            clear c_b5_0 c_b5_1 c_b5_2 c_b3_0 c_b3_1
            clear hv5 K4
            have c_b5_0 := K5.out.cell (b := b5) (cs := #[.int .u64 ax, .int .u64 ay, .int .u64 z]) (t := 44) (by simp) 0 rfl
            have c_b5_1 := K5.out.cell (b := b5) (cs := #[.int .u64 ax, .int .u64 ay, .int .u64 z]) (t := 44) (by simp) 1 rfl
            have c_b5_2 := K5.out.cell (b := b5) (cs := #[.int .u64 ax, .int .u64 ay, .int .u64 z]) (t := 44) (by simp) 2 rfl
            have c_b3_0 := K5.out.cell (b := b3) (cs := #[.int .u64 0, .int .u64 y]) (t := 37) (by simp) 0 rfl
            have c_b3_1 := K5.out.cell (b := b3) (cs := #[.int .u64 0, .int .u64 y]) (t := 37) (by simp) 1 rfl
            go_wp2_with fail
            refine wp_region_noPanic ?_
            refine wp_region_held_drew (S := fun wq => wq.cell? ⟨b5, 0, none⟩ = some (.int .u64 ax) ∧ wq.cell? ⟨b5, 1, none⟩ = some (.int .u64 ay) ∧ wq.cell? ⟨b5, 2, none⟩ = some (.int .u64 z) ∧ wq.cell? ⟨b3, 0, none⟩ = some (.int .u64 0) ∧ wq.cell? ⟨b3, 1, none⟩ = some (.int .u64 y) ∧ HR w wq [(b5, #[.int .u64 ax, .int .u64 ay, .int .u64 z], 44), (b3, #[.int .u64 0, .int .u64 y], 37)]) (by kernel_rfl) ?_ (fun hHeld => ?_)
            · have hq0 := HR.drew K5.out
              exact ⟨HR.cell hq0 (b := b5) (cs := #[.int .u64 ax, .int .u64 ay, .int .u64 z]) (t := 44) (by simp) 0 rfl, HR.cell hq0 (b := b5) (cs := #[.int .u64 ax, .int .u64 ay, .int .u64 z]) (t := 44) (by simp) 1 rfl, HR.cell hq0 (b := b5) (cs := #[.int .u64 ax, .int .u64 ay, .int .u64 z]) (t := 44) (by simp) 2 rfl, HR.cell hq0 (b := b3) (cs := #[.int .u64 0, .int .u64 y]) (t := 37) (by simp) 0 rfl, HR.cell hq0 (b := b3) (cs := #[.int .u64 0, .int .u64 y]) (t := 37) (by simp) 1 rfl, hq0⟩
            refine takeH 1 (fun _ _ _ _ _ h => h) (by kernel_rfl) hHeld rfl (by kernel_rfl) (by rfl) (v := ?_) ?_ ?_
            rotate_left
            ((intro wz hz; (try dsimp only at hz); go_simp) <;> with_reducible rfl)
            try simp only [Act.put, List.setIfInBounds_toArray, List.set_cons_zero, List.set_cons_succ]
            refine takeH 2 (fun _ _ _ _ _ h => h) (by kernel_rfl) hHeld rfl (by kernel_rfl) (by rfl) (v := ?_) ?_ ?_
            rotate_left
            ((intro wz hz; (try dsimp only at hz); go_simp) <;> with_reducible rfl)
            try simp only [Act.put, List.setIfInBounds_toArray, List.set_cons_zero, List.set_cons_succ]
            refine takeH 4 (fun _ _ _ _ _ h => h) (by kernel_rfl) hHeld rfl (by kernel_rfl) (by rfl) (v := ?_) ?_ ?_
            rotate_left
            ((intro wz hz; (try dsimp only at hz); go_simp) <;> with_reducible rfl)
            try simp only [Act.put, List.setIfInBounds_toArray, List.set_cons_zero, List.set_cons_succ]
            refine takeH 5 (fun _ _ _ _ _ h => h) (by kernel_rfl) hHeld rfl (by kernel_rfl) (by rfl) (v := ?_) ?_ ?_
            rotate_left
            ((intro wz hz; (try dsimp only at hz); go_simp) <;> with_reducible rfl)
            try simp only [Act.put, List.setIfInBounds_toArray, List.set_cons_zero, List.set_cons_succ]
            refine takeH 6 (fun _ _ _ _ _ h => h) (by kernel_rfl) hHeld rfl (by kernel_rfl) (by rfl) (v := ?_) ?_ ?_
            rotate_left
            ((intro wz hz; (try dsimp only at hz); go_simp) <;> with_reducible rfl)
            try simp only [Act.put, List.setIfInBounds_toArray, List.set_cons_zero, List.set_cons_succ]
            refine takeH 7 (fun _ _ _ _ _ h => h) (by kernel_rfl) hHeld rfl (by kernel_rfl) (by rfl) (v := ?_) ?_ ?_
            rotate_left
            ((intro wz hz; (try dsimp only at hz); go_simp) <;> with_reducible rfl)
            try simp only [Act.put, List.setIfInBounds_toArray, List.set_cons_zero, List.set_cons_succ]
            refine stepH 0 (by kernel_rfl) rfl (by rfl) (fun K hK => ?_)
            go_simp
            refine (r7Gen _).mono ?_
            rintro e wc1 ⟨rfl, hbc1⟩
            have hrc1 := HR.next hHeld.2.2.2.2.2 hbc1
            refine hK.out _ _ ?_ (fun hHeld => ?_)
            · exact ⟨HR.cell hrc1 (b := b5) (cs := #[.int .u64 ax, .int .u64 ay, .int .u64 z]) (t := 44) (by simp) 0 rfl, HR.cell hrc1 (b := b5) (cs := #[.int .u64 ax, .int .u64 ay, .int .u64 z]) (t := 44) (by simp) 1 rfl, HR.cell hrc1 (b := b5) (cs := #[.int .u64 ax, .int .u64 ay, .int .u64 z]) (t := 44) (by simp) 2 rfl, HR.cell hrc1 (b := b3) (cs := #[.int .u64 0, .int .u64 y]) (t := 37) (by simp) 0 rfl, HR.cell hrc1 (b := b3) (cs := #[.int .u64 0, .int .u64 y]) (t := 37) (by simp) 1 rfl, hrc1⟩
            clear hK K
            try simp only [Act.put, List.setIfInBounds_toArray, List.set_cons_zero, List.set_cons_succ]
            refine stepH 3 (by kernel_rfl) rfl (by rfl) (fun K hK => ?_)
            go_simp
            refine (cT1.out _).mono ?_
            rintro e wc2 ⟨rfl, hbc2⟩
            have hrc2 := HR.next hHeld.2.2.2.2.2 hbc2
            refine hK.out _ _ ?_ (fun hHeld => ?_)
            · exact ⟨HR.cell hrc2 (b := b5) (cs := #[.int .u64 ax, .int .u64 ay, .int .u64 z]) (t := 44) (by simp) 0 rfl, HR.cell hrc2 (b := b5) (cs := #[.int .u64 ax, .int .u64 ay, .int .u64 z]) (t := 44) (by simp) 1 rfl, HR.cell hrc2 (b := b5) (cs := #[.int .u64 ax, .int .u64 ay, .int .u64 z]) (t := 44) (by simp) 2 rfl, HR.cell hrc2 (b := b3) (cs := #[.int .u64 0, .int .u64 y]) (t := 37) (by simp) 0 rfl, HR.cell hrc2 (b := b3) (cs := #[.int .u64 0, .int .u64 y]) (t := 37) (by simp) 1 rfl, hrc2⟩
            clear hK K
            try simp only [Act.put, List.setIfInBounds_toArray, List.set_cons_zero, List.set_cons_succ]
            refine stepH 8 (by kernel_rfl) rfl (by rfl) (fun K hK => ?_)
            go_simp
            refine (cT2.out _).mono ?_
            rintro e wc3 ⟨rfl, hbc3⟩
            have hrc3 := HR.next hHeld.2.2.2.2.2 hbc3
            refine hK.out _ _ ?_ (fun hHeld => ?_)
            · exact ⟨HR.cell hrc3 (b := b5) (cs := #[.int .u64 ax, .int .u64 ay, .int .u64 z]) (t := 44) (by simp) 0 rfl, HR.cell hrc3 (b := b5) (cs := #[.int .u64 ax, .int .u64 ay, .int .u64 z]) (t := 44) (by simp) 1 rfl, HR.cell hrc3 (b := b5) (cs := #[.int .u64 ax, .int .u64 ay, .int .u64 z]) (t := 44) (by simp) 2 rfl, HR.cell hrc3 (b := b3) (cs := #[.int .u64 0, .int .u64 y]) (t := 37) (by simp) 0 rfl, HR.cell hrc3 (b := b3) (cs := #[.int .u64 0, .int .u64 y]) (t := 37) (by simp) 1 rfl, hrc3⟩
            clear hK K
            try simp only [Act.put, List.setIfInBounds_toArray, List.set_cons_zero, List.set_cons_succ]
            refine stepH 9 (by kernel_rfl) rfl (by rfl) (fun K hK => ?_)
            go_simp
            refine (cSum.out _).mono ?_
            rintro e wc4 ⟨rfl, hbc4⟩
            have hrc4 := HR.next hHeld.2.2.2.2.2 hbc4
            refine hK.out _ _ ?_ (fun hHeld => ?_)
            · exact ⟨HR.cell hrc4 (b := b5) (cs := #[.int .u64 ax, .int .u64 ay, .int .u64 z]) (t := 44) (by simp) 0 rfl, HR.cell hrc4 (b := b5) (cs := #[.int .u64 ax, .int .u64 ay, .int .u64 z]) (t := 44) (by simp) 1 rfl, HR.cell hrc4 (b := b5) (cs := #[.int .u64 ax, .int .u64 ay, .int .u64 z]) (t := 44) (by simp) 2 rfl, HR.cell hrc4 (b := b3) (cs := #[.int .u64 0, .int .u64 y]) (t := 37) (by simp) 0 rfl, HR.cell hrc4 (b := b3) (cs := #[.int .u64 0, .int .u64 y]) (t := 37) (by simp) 1 rfl, hrc4⟩
            clear hK K
            try simp only [Act.put, List.setIfInBounds_toArray, List.set_cons_zero, List.set_cons_succ]
            refine takeH 10 (fun _ _ _ _ _ h => h) (by kernel_rfl) hHeld rfl (by kernel_rfl) (by rfl) (v := ?_) ?_ ?_
            rotate_left
            ((intro wz hz; (try dsimp only at hz); go_simp) <;> with_reducible rfl)
            try simp only [Act.put, List.setIfInBounds_toArray, List.set_cons_zero, List.set_cons_succ]
            refine takeH 11 (fun _ _ _ _ _ h => h) (by kernel_rfl) hHeld rfl (by kernel_rfl) (by rfl) (v := ?_) ?_ ?_
            rotate_left
            ((intro wz hz; (try dsimp only at hz); go_simp) <;> with_reducible rfl)
            try simp only [Act.put, List.setIfInBounds_toArray, List.set_cons_zero, List.set_cons_succ]
            refine wpAnyH_done (by kernel_rfl) (NoPanic.normal ?_) _
            have HB := Lib.hid (hHeld.2.2.2.2.2.2)
            clear hHeld
            go_wp2_with fail
            go_ret
            exact ⟨rfl, HB.out⟩
          · have cV := Lib.hid (cVN hC)
            obtain ⟨tx, ty, -, -, -, -, hvT, hnT⟩ := coordsN (Obol.Pnt.smul z.toNat Obol.G)
            rw [hvT] at cT1
            have hne := Lib.hid (fun (he : tx = sx ∧ ty = sy) => hC (Obol.Pnt.n_inj (by rw [← hnS, ← hnT, he.1, he.2])))
            replace cT1 := Lib.hid cT1
            clear hC cVY cVN hvS hnS hvM hq hqlt hvA hSA hvP hSP hA hP hvT hnT
            go_enter Tryd.func7, Tryd.ntmps7
            go_wp2_with fail
            have H0 := Lib.hid (((HR.refl w).new #[.int .u64 0, .int .u64 y] 37).new #[.int .u64 ax, .int .u64 ay, .int .u64 z] 44)
            rw [World.size_alloc] at H0
            generalize (w.alloc (.cells #[.int .u64 0, .int .u64 y] 37)).alloc (.cells #[.int .u64 ax, .int .u64 ay, .int .u64 z] 44) = w0 at H0 ⊢
            generalize w.heap.size + 1 = b5 at H0 ⊢
            generalize w.heap.size = b3 at H0 ⊢
            refine (hU.out _ H0.out.2).mono ?_
            rintro e w1 ⟨rfl, hb1⟩
            have H1 := Lib.hid (H0.out.next hb1)
            clear hb1 H0
            have c_b5_0 := H1.out.cell (b := b5) (cs := #[.int .u64 ax, .int .u64 ay, .int .u64 z]) (t := 44) (by simp) 0 rfl
            have c_b5_1 := H1.out.cell (b := b5) (cs := #[.int .u64 ax, .int .u64 ay, .int .u64 z]) (t := 44) (by simp) 1 rfl
            have c_b5_2 := H1.out.cell (b := b5) (cs := #[.int .u64 ax, .int .u64 ay, .int .u64 z]) (t := 44) (by simp) 2 rfl
            have c_b3_0 := H1.out.cell (b := b3) (cs := #[.int .u64 0, .int .u64 y]) (t := 37) (by simp) 0 rfl
            have c_b3_1 := H1.out.cell (b := b3) (cs := #[.int .u64 0, .int .u64 y]) (t := 37) (by simp) 1 rfl
            go_wp2_with fail
            refine (cV.out _ H1.out.2).mono ?_
            rintro e v2 ⟨rfl, hv2⟩
            have K2 := Lib.hid (H1.out.next hv2)
            clear c_b5_0 c_b5_1 c_b5_2 c_b3_0 c_b3_1
            clear hv2 H1
            have c_b5_0 := K2.out.cell (b := b5) (cs := #[.int .u64 ax, .int .u64 ay, .int .u64 z]) (t := 44) (by simp) 0 rfl
            have c_b5_1 := K2.out.cell (b := b5) (cs := #[.int .u64 ax, .int .u64 ay, .int .u64 z]) (t := 44) (by simp) 1 rfl
            have c_b5_2 := K2.out.cell (b := b5) (cs := #[.int .u64 ax, .int .u64 ay, .int .u64 z]) (t := 44) (by simp) 2 rfl
            have c_b3_0 := K2.out.cell (b := b3) (cs := #[.int .u64 0, .int .u64 y]) (t := 37) (by simp) 0 rfl
            have c_b3_1 := K2.out.cell (b := b3) (cs := #[.int .u64 0, .int .u64 y]) (t := 37) (by simp) 1 rfl
            go_wp2_with fail
            refine (cIP.out _).mono ?_
            rintro e v3 ⟨rfl, hv3⟩
            have K3 := Lib.hid (K2.out.next hv3)
            clear c_b5_0 c_b5_1 c_b5_2 c_b3_0 c_b3_1
            clear hv3 K2
            have c_b5_0 := K3.out.cell (b := b5) (cs := #[.int .u64 ax, .int .u64 ay, .int .u64 z]) (t := 44) (by simp) 0 rfl
            have c_b5_1 := K3.out.cell (b := b5) (cs := #[.int .u64 ax, .int .u64 ay, .int .u64 z]) (t := 44) (by simp) 1 rfl
            have c_b5_2 := K3.out.cell (b := b5) (cs := #[.int .u64 ax, .int .u64 ay, .int .u64 z]) (t := 44) (by simp) 2 rfl
            have c_b3_0 := K3.out.cell (b := b3) (cs := #[.int .u64 0, .int .u64 y]) (t := 37) (by simp) 0 rfl
            have c_b3_1 := K3.out.cell (b := b3) (cs := #[.int .u64 0, .int .u64 y]) (t := 37) (by simp) 1 rfl
            go_wp2_with fail
            refine (cIA.out _).mono ?_
            rintro e v4 ⟨rfl, hv4⟩
            have K4 := Lib.hid (K3.out.next hv4)
            clear c_b5_0 c_b5_1 c_b5_2 c_b3_0 c_b3_1
            clear hv4 K3
            have c_b5_0 := K4.out.cell (b := b5) (cs := #[.int .u64 ax, .int .u64 ay, .int .u64 z]) (t := 44) (by simp) 0 rfl
            have c_b5_1 := K4.out.cell (b := b5) (cs := #[.int .u64 ax, .int .u64 ay, .int .u64 z]) (t := 44) (by simp) 1 rfl
            have c_b5_2 := K4.out.cell (b := b5) (cs := #[.int .u64 ax, .int .u64 ay, .int .u64 z]) (t := 44) (by simp) 2 rfl
            have c_b3_0 := K4.out.cell (b := b3) (cs := #[.int .u64 0, .int .u64 y]) (t := 37) (by simp) 0 rfl
            have c_b3_1 := K4.out.cell (b := b3) (cs := #[.int .u64 0, .int .u64 y]) (t := 37) (by simp) 1 rfl
            go_wp2_with fail
            refine (cQ.out _ K4.out.2).mono ?_
            rintro e v5 ⟨rfl, hv5⟩
            have K5 := Lib.hid (K4.out.next hv5)
            clear c_b5_0 c_b5_1 c_b5_2 c_b3_0 c_b3_1
            clear hv5 K4
            have c_b5_0 := K5.out.cell (b := b5) (cs := #[.int .u64 ax, .int .u64 ay, .int .u64 z]) (t := 44) (by simp) 0 rfl
            have c_b5_1 := K5.out.cell (b := b5) (cs := #[.int .u64 ax, .int .u64 ay, .int .u64 z]) (t := 44) (by simp) 1 rfl
            have c_b5_2 := K5.out.cell (b := b5) (cs := #[.int .u64 ax, .int .u64 ay, .int .u64 z]) (t := 44) (by simp) 2 rfl
            have c_b3_0 := K5.out.cell (b := b3) (cs := #[.int .u64 0, .int .u64 y]) (t := 37) (by simp) 0 rfl
            have c_b3_1 := K5.out.cell (b := b3) (cs := #[.int .u64 0, .int .u64 y]) (t := 37) (by simp) 1 rfl
            go_wp2_with fail
            refine wp_region_noPanic ?_
            refine wp_region_held_drew (S := fun wq => wq.cell? ⟨b5, 0, none⟩ = some (.int .u64 ax) ∧ wq.cell? ⟨b5, 1, none⟩ = some (.int .u64 ay) ∧ wq.cell? ⟨b5, 2, none⟩ = some (.int .u64 z) ∧ wq.cell? ⟨b3, 0, none⟩ = some (.int .u64 0) ∧ wq.cell? ⟨b3, 1, none⟩ = some (.int .u64 y) ∧ HR w wq [(b5, #[.int .u64 ax, .int .u64 ay, .int .u64 z], 44), (b3, #[.int .u64 0, .int .u64 y], 37)]) (by kernel_rfl) ?_ (fun hHeld => ?_)
            · have hq0 := HR.drew K5.out
              exact ⟨HR.cell hq0 (b := b5) (cs := #[.int .u64 ax, .int .u64 ay, .int .u64 z]) (t := 44) (by simp) 0 rfl, HR.cell hq0 (b := b5) (cs := #[.int .u64 ax, .int .u64 ay, .int .u64 z]) (t := 44) (by simp) 1 rfl, HR.cell hq0 (b := b5) (cs := #[.int .u64 ax, .int .u64 ay, .int .u64 z]) (t := 44) (by simp) 2 rfl, HR.cell hq0 (b := b3) (cs := #[.int .u64 0, .int .u64 y]) (t := 37) (by simp) 0 rfl, HR.cell hq0 (b := b3) (cs := #[.int .u64 0, .int .u64 y]) (t := 37) (by simp) 1 rfl, hq0⟩
            refine takeH 1 (fun _ _ _ _ _ h => h) (by kernel_rfl) hHeld rfl (by kernel_rfl) (by rfl) (v := ?_) ?_ ?_
            rotate_left
            ((intro wz hz; (try dsimp only at hz); go_simp) <;> with_reducible rfl)
            try simp only [Act.put, List.setIfInBounds_toArray, List.set_cons_zero, List.set_cons_succ]
            refine takeH 2 (fun _ _ _ _ _ h => h) (by kernel_rfl) hHeld rfl (by kernel_rfl) (by rfl) (v := ?_) ?_ ?_
            rotate_left
            ((intro wz hz; (try dsimp only at hz); go_simp) <;> with_reducible rfl)
            try simp only [Act.put, List.setIfInBounds_toArray, List.set_cons_zero, List.set_cons_succ]
            refine takeH 4 (fun _ _ _ _ _ h => h) (by kernel_rfl) hHeld rfl (by kernel_rfl) (by rfl) (v := ?_) ?_ ?_
            rotate_left
            ((intro wz hz; (try dsimp only at hz); go_simp) <;> with_reducible rfl)
            try simp only [Act.put, List.setIfInBounds_toArray, List.set_cons_zero, List.set_cons_succ]
            refine takeH 5 (fun _ _ _ _ _ h => h) (by kernel_rfl) hHeld rfl (by kernel_rfl) (by rfl) (v := ?_) ?_ ?_
            rotate_left
            ((intro wz hz; (try dsimp only at hz); go_simp) <;> with_reducible rfl)
            try simp only [Act.put, List.setIfInBounds_toArray, List.set_cons_zero, List.set_cons_succ]
            refine takeH 6 (fun _ _ _ _ _ h => h) (by kernel_rfl) hHeld rfl (by kernel_rfl) (by rfl) (v := ?_) ?_ ?_
            rotate_left
            ((intro wz hz; (try dsimp only at hz); go_simp) <;> with_reducible rfl)
            try simp only [Act.put, List.setIfInBounds_toArray, List.set_cons_zero, List.set_cons_succ]
            refine takeH 7 (fun _ _ _ _ _ h => h) (by kernel_rfl) hHeld rfl (by kernel_rfl) (by rfl) (v := ?_) ?_ ?_
            rotate_left
            ((intro wz hz; (try dsimp only at hz); go_simp) <;> with_reducible rfl)
            try simp only [Act.put, List.setIfInBounds_toArray, List.set_cons_zero, List.set_cons_succ]
            refine stepH 0 (by kernel_rfl) rfl (by rfl) (fun K hK => ?_)
            go_simp
            refine (r7Gen _).mono ?_
            rintro e wc1 ⟨rfl, hbc1⟩
            have hrc1 := HR.next hHeld.2.2.2.2.2 hbc1
            refine hK.out _ _ ?_ (fun hHeld => ?_)
            · exact ⟨HR.cell hrc1 (b := b5) (cs := #[.int .u64 ax, .int .u64 ay, .int .u64 z]) (t := 44) (by simp) 0 rfl, HR.cell hrc1 (b := b5) (cs := #[.int .u64 ax, .int .u64 ay, .int .u64 z]) (t := 44) (by simp) 1 rfl, HR.cell hrc1 (b := b5) (cs := #[.int .u64 ax, .int .u64 ay, .int .u64 z]) (t := 44) (by simp) 2 rfl, HR.cell hrc1 (b := b3) (cs := #[.int .u64 0, .int .u64 y]) (t := 37) (by simp) 0 rfl, HR.cell hrc1 (b := b3) (cs := #[.int .u64 0, .int .u64 y]) (t := 37) (by simp) 1 rfl, hrc1⟩
            clear hK K
            try simp only [Act.put, List.setIfInBounds_toArray, List.set_cons_zero, List.set_cons_succ]
            refine stepH 3 (by kernel_rfl) rfl (by rfl) (fun K hK => ?_)
            go_simp
            refine (cT1.out _).mono ?_
            rintro e wc2 ⟨rfl, hbc2⟩
            have hrc2 := HR.next hHeld.2.2.2.2.2 hbc2
            refine hK.out _ _ ?_ (fun hHeld => ?_)
            · exact ⟨HR.cell hrc2 (b := b5) (cs := #[.int .u64 ax, .int .u64 ay, .int .u64 z]) (t := 44) (by simp) 0 rfl, HR.cell hrc2 (b := b5) (cs := #[.int .u64 ax, .int .u64 ay, .int .u64 z]) (t := 44) (by simp) 1 rfl, HR.cell hrc2 (b := b5) (cs := #[.int .u64 ax, .int .u64 ay, .int .u64 z]) (t := 44) (by simp) 2 rfl, HR.cell hrc2 (b := b3) (cs := #[.int .u64 0, .int .u64 y]) (t := 37) (by simp) 0 rfl, HR.cell hrc2 (b := b3) (cs := #[.int .u64 0, .int .u64 y]) (t := 37) (by simp) 1 rfl, hrc2⟩
            clear hK K
            try simp only [Act.put, List.setIfInBounds_toArray, List.set_cons_zero, List.set_cons_succ]
            refine stepH 8 (by kernel_rfl) rfl (by rfl) (fun K hK => ?_)
            go_simp
            refine (cT2.out _).mono ?_
            rintro e wc3 ⟨rfl, hbc3⟩
            have hrc3 := HR.next hHeld.2.2.2.2.2 hbc3
            refine hK.out _ _ ?_ (fun hHeld => ?_)
            · exact ⟨HR.cell hrc3 (b := b5) (cs := #[.int .u64 ax, .int .u64 ay, .int .u64 z]) (t := 44) (by simp) 0 rfl, HR.cell hrc3 (b := b5) (cs := #[.int .u64 ax, .int .u64 ay, .int .u64 z]) (t := 44) (by simp) 1 rfl, HR.cell hrc3 (b := b5) (cs := #[.int .u64 ax, .int .u64 ay, .int .u64 z]) (t := 44) (by simp) 2 rfl, HR.cell hrc3 (b := b3) (cs := #[.int .u64 0, .int .u64 y]) (t := 37) (by simp) 0 rfl, HR.cell hrc3 (b := b3) (cs := #[.int .u64 0, .int .u64 y]) (t := 37) (by simp) 1 rfl, hrc3⟩
            clear hK K
            try simp only [Act.put, List.setIfInBounds_toArray, List.set_cons_zero, List.set_cons_succ]
            refine stepH 9 (by kernel_rfl) rfl (by rfl) (fun K hK => ?_)
            go_simp
            refine (cSum.out _).mono ?_
            rintro e wc4 ⟨rfl, hbc4⟩
            have hrc4 := HR.next hHeld.2.2.2.2.2 hbc4
            refine hK.out _ _ ?_ (fun hHeld => ?_)
            · exact ⟨HR.cell hrc4 (b := b5) (cs := #[.int .u64 ax, .int .u64 ay, .int .u64 z]) (t := 44) (by simp) 0 rfl, HR.cell hrc4 (b := b5) (cs := #[.int .u64 ax, .int .u64 ay, .int .u64 z]) (t := 44) (by simp) 1 rfl, HR.cell hrc4 (b := b5) (cs := #[.int .u64 ax, .int .u64 ay, .int .u64 z]) (t := 44) (by simp) 2 rfl, HR.cell hrc4 (b := b3) (cs := #[.int .u64 0, .int .u64 y]) (t := 37) (by simp) 0 rfl, HR.cell hrc4 (b := b3) (cs := #[.int .u64 0, .int .u64 y]) (t := 37) (by simp) 1 rfl, hrc4⟩
            clear hK K
            try simp only [Act.put, List.setIfInBounds_toArray, List.set_cons_zero, List.set_cons_succ]
            refine takeH 10 (fun _ _ _ _ _ h => h) (by kernel_rfl) hHeld rfl (by kernel_rfl) (by rfl) (v := .bool false) ?_ ?_
            · intro wz hz
              (try dsimp only at hz)
              go_simp
              by_cases e1 : tx = sx <;> by_cases e2 : ty = sy <;> simp [e1, e2] <;> exact (hne.out ⟨e1, e2⟩).elim
            try simp only [Act.put, List.setIfInBounds_toArray, List.set_cons_zero, List.set_cons_succ]
            refine takeH 11 (fun _ _ _ _ _ h => h) (by kernel_rfl) hHeld rfl (by kernel_rfl) (by rfl) (v := ?_) ?_ ?_
            rotate_left
            ((intro wz hz; (try dsimp only at hz); go_simp) <;> with_reducible rfl)
            try simp only [Act.put, List.setIfInBounds_toArray, List.set_cons_zero, List.set_cons_succ]
            refine wpAnyH_done (by kernel_rfl) (NoPanic.normal ?_) _
            have HB := Lib.hid (hHeld.2.2.2.2.2.2)
            clear hHeld
            go_wp2_with fail
            go_ret
            exact ⟨rfl, HB.out⟩
        · have hz' : 72057593894066549 ≤ z := by omega
          have cV := Lib.hid (fun W => sVerS 0 y ax ay z x0 y0 ax0 ay0 z0 z1 ao len cap hnz.out hA hP hz' W)
          clear hA hP
          go_enter Tryd.func7, Tryd.ntmps7
          go_wp2_with fail
          have H0 := Lib.hid (((HR.refl w).new #[.int .u64 0, .int .u64 y] 37).new #[.int .u64 ax, .int .u64 ay, .int .u64 z] 44)
          rw [World.size_alloc] at H0
          generalize (w.alloc (.cells #[.int .u64 0, .int .u64 y] 37)).alloc (.cells #[.int .u64 ax, .int .u64 ay, .int .u64 z] 44) = w0 at H0 ⊢
          generalize w.heap.size + 1 = b5 at H0 ⊢
          generalize w.heap.size = b3 at H0 ⊢
          refine (hU.out _ H0.out.2).mono ?_
          rintro e w1 ⟨rfl, hb1⟩
          have H1 := Lib.hid (H0.out.next hb1)
          clear hb1 H0
          have c_b5_0 := H1.out.cell (b := b5) (cs := #[.int .u64 ax, .int .u64 ay, .int .u64 z]) (t := 44) (by simp) 0 rfl
          have c_b5_1 := H1.out.cell (b := b5) (cs := #[.int .u64 ax, .int .u64 ay, .int .u64 z]) (t := 44) (by simp) 1 rfl
          have c_b5_2 := H1.out.cell (b := b5) (cs := #[.int .u64 ax, .int .u64 ay, .int .u64 z]) (t := 44) (by simp) 2 rfl
          have c_b3_0 := H1.out.cell (b := b3) (cs := #[.int .u64 0, .int .u64 y]) (t := 37) (by simp) 0 rfl
          have c_b3_1 := H1.out.cell (b := b3) (cs := #[.int .u64 0, .int .u64 y]) (t := 37) (by simp) 1 rfl
          go_wp2_with fail
          refine (cV.out _).mono ?_
          rintro e v2 ⟨rfl, hv2⟩
          have K2 := Lib.hid (H1.out.next hv2)
          clear c_b5_0 c_b5_1 c_b5_2 c_b3_0 c_b3_1
          clear hv2 H1
          have c_b5_0 := K2.out.cell (b := b5) (cs := #[.int .u64 ax, .int .u64 ay, .int .u64 z]) (t := 44) (by simp) 0 rfl
          have c_b5_1 := K2.out.cell (b := b5) (cs := #[.int .u64 ax, .int .u64 ay, .int .u64 z]) (t := 44) (by simp) 1 rfl
          have c_b5_2 := K2.out.cell (b := b5) (cs := #[.int .u64 ax, .int .u64 ay, .int .u64 z]) (t := 44) (by simp) 2 rfl
          have c_b3_0 := K2.out.cell (b := b3) (cs := #[.int .u64 0, .int .u64 y]) (t := 37) (by simp) 0 rfl
          have c_b3_1 := K2.out.cell (b := b3) (cs := #[.int .u64 0, .int .u64 y]) (t := 37) (by simp) 1 rfl
          go_wp2_with fail
          refine (cIP.out _).mono ?_
          rintro e v3 ⟨rfl, hv3⟩
          have K3 := Lib.hid (K2.out.next hv3)
          clear c_b5_0 c_b5_1 c_b5_2 c_b3_0 c_b3_1
          clear hv3 K2
          have c_b5_0 := K3.out.cell (b := b5) (cs := #[.int .u64 ax, .int .u64 ay, .int .u64 z]) (t := 44) (by simp) 0 rfl
          have c_b5_1 := K3.out.cell (b := b5) (cs := #[.int .u64 ax, .int .u64 ay, .int .u64 z]) (t := 44) (by simp) 1 rfl
          have c_b5_2 := K3.out.cell (b := b5) (cs := #[.int .u64 ax, .int .u64 ay, .int .u64 z]) (t := 44) (by simp) 2 rfl
          have c_b3_0 := K3.out.cell (b := b3) (cs := #[.int .u64 0, .int .u64 y]) (t := 37) (by simp) 0 rfl
          have c_b3_1 := K3.out.cell (b := b3) (cs := #[.int .u64 0, .int .u64 y]) (t := 37) (by simp) 1 rfl
          go_wp2_with fail
          refine (cIA.out _).mono ?_
          rintro e v4 ⟨rfl, hv4⟩
          have K4 := Lib.hid (K3.out.next hv4)
          clear c_b5_0 c_b5_1 c_b5_2 c_b3_0 c_b3_1
          clear hv4 K3
          have c_b5_0 := K4.out.cell (b := b5) (cs := #[.int .u64 ax, .int .u64 ay, .int .u64 z]) (t := 44) (by simp) 0 rfl
          have c_b5_1 := K4.out.cell (b := b5) (cs := #[.int .u64 ax, .int .u64 ay, .int .u64 z]) (t := 44) (by simp) 1 rfl
          have c_b5_2 := K4.out.cell (b := b5) (cs := #[.int .u64 ax, .int .u64 ay, .int .u64 z]) (t := 44) (by simp) 2 rfl
          have c_b3_0 := K4.out.cell (b := b3) (cs := #[.int .u64 0, .int .u64 y]) (t := 37) (by simp) 0 rfl
          have c_b3_1 := K4.out.cell (b := b3) (cs := #[.int .u64 0, .int .u64 y]) (t := 37) (by simp) 1 rfl
          go_wp2_with fail
          go_ret
          exact ⟨rfl, K4.out.2⟩
  · clear hx
    have cIP := fun w => r7In x y x0 y0 w
    have cIA := fun w => r7In ax ay ax0 ay0 w
    cases hP : inN ((x : Int).toNat, (y : Int).toNat)
    · rw [hP] at cIP
      replace cIP := Lib.hid cIP
      cases hA : inN (ax.toNat, ay.toNat)
      · have cV := Lib.hid (fun W => sVerA x y ax ay z x0 y0 ax0 ay0 z0 z1 ao len cap hnz.out hA W)
        clear hA hP cIA
        go_enter Tryd.func7, Tryd.ntmps7
        go_wp2_with fail
        have H0 := Lib.hid (((HR.refl w).new #[.int .u64 x, .int .u64 y] 37).new #[.int .u64 ax, .int .u64 ay, .int .u64 z] 44)
        rw [World.size_alloc] at H0
        generalize (w.alloc (.cells #[.int .u64 x, .int .u64 y] 37)).alloc (.cells #[.int .u64 ax, .int .u64 ay, .int .u64 z] 44) = w0 at H0 ⊢
        generalize w.heap.size + 1 = b5 at H0 ⊢
        generalize w.heap.size = b3 at H0 ⊢
        refine (hU.out _ H0.out.2).mono ?_
        rintro e w1 ⟨rfl, hb1⟩
        have H1 := Lib.hid (H0.out.next hb1)
        clear hb1 H0
        have c_b5_0 := H1.out.cell (b := b5) (cs := #[.int .u64 ax, .int .u64 ay, .int .u64 z]) (t := 44) (by simp) 0 rfl
        have c_b5_1 := H1.out.cell (b := b5) (cs := #[.int .u64 ax, .int .u64 ay, .int .u64 z]) (t := 44) (by simp) 1 rfl
        have c_b5_2 := H1.out.cell (b := b5) (cs := #[.int .u64 ax, .int .u64 ay, .int .u64 z]) (t := 44) (by simp) 2 rfl
        have c_b3_0 := H1.out.cell (b := b3) (cs := #[.int .u64 x, .int .u64 y]) (t := 37) (by simp) 0 rfl
        have c_b3_1 := H1.out.cell (b := b3) (cs := #[.int .u64 x, .int .u64 y]) (t := 37) (by simp) 1 rfl
        go_wp2_with fail
        refine (cV.out _).mono ?_
        rintro e v2 ⟨rfl, hv2⟩
        have K2 := Lib.hid (H1.out.next hv2)
        clear c_b5_0 c_b5_1 c_b5_2 c_b3_0 c_b3_1
        clear hv2 H1
        have c_b5_0 := K2.out.cell (b := b5) (cs := #[.int .u64 ax, .int .u64 ay, .int .u64 z]) (t := 44) (by simp) 0 rfl
        have c_b5_1 := K2.out.cell (b := b5) (cs := #[.int .u64 ax, .int .u64 ay, .int .u64 z]) (t := 44) (by simp) 1 rfl
        have c_b5_2 := K2.out.cell (b := b5) (cs := #[.int .u64 ax, .int .u64 ay, .int .u64 z]) (t := 44) (by simp) 2 rfl
        have c_b3_0 := K2.out.cell (b := b3) (cs := #[.int .u64 x, .int .u64 y]) (t := 37) (by simp) 0 rfl
        have c_b3_1 := K2.out.cell (b := b3) (cs := #[.int .u64 x, .int .u64 y]) (t := 37) (by simp) 1 rfl
        go_wp2_with fail
        refine (cIP.out _).mono ?_
        rintro e v3 ⟨rfl, hv3⟩
        have K3 := Lib.hid (K2.out.next hv3)
        clear c_b5_0 c_b5_1 c_b5_2 c_b3_0 c_b3_1
        clear hv3 K2
        have c_b5_0 := K3.out.cell (b := b5) (cs := #[.int .u64 ax, .int .u64 ay, .int .u64 z]) (t := 44) (by simp) 0 rfl
        have c_b5_1 := K3.out.cell (b := b5) (cs := #[.int .u64 ax, .int .u64 ay, .int .u64 z]) (t := 44) (by simp) 1 rfl
        have c_b5_2 := K3.out.cell (b := b5) (cs := #[.int .u64 ax, .int .u64 ay, .int .u64 z]) (t := 44) (by simp) 2 rfl
        have c_b3_0 := K3.out.cell (b := b3) (cs := #[.int .u64 x, .int .u64 y]) (t := 37) (by simp) 0 rfl
        have c_b3_1 := K3.out.cell (b := b3) (cs := #[.int .u64 x, .int .u64 y]) (t := 37) (by simp) 1 rfl
        go_wp2_with fail
        go_ret
        exact ⟨rfl, K3.out.2⟩
      · have cV := Lib.hid (fun W => sVerP x y ax ay z x0 y0 ax0 ay0 z0 z1 ao len cap hnz.out hA hP W)
        clear hA hP cIA
        go_enter Tryd.func7, Tryd.ntmps7
        go_wp2_with fail
        have H0 := Lib.hid (((HR.refl w).new #[.int .u64 x, .int .u64 y] 37).new #[.int .u64 ax, .int .u64 ay, .int .u64 z] 44)
        rw [World.size_alloc] at H0
        generalize (w.alloc (.cells #[.int .u64 x, .int .u64 y] 37)).alloc (.cells #[.int .u64 ax, .int .u64 ay, .int .u64 z] 44) = w0 at H0 ⊢
        generalize w.heap.size + 1 = b5 at H0 ⊢
        generalize w.heap.size = b3 at H0 ⊢
        refine (hU.out _ H0.out.2).mono ?_
        rintro e w1 ⟨rfl, hb1⟩
        have H1 := Lib.hid (H0.out.next hb1)
        clear hb1 H0
        have c_b5_0 := H1.out.cell (b := b5) (cs := #[.int .u64 ax, .int .u64 ay, .int .u64 z]) (t := 44) (by simp) 0 rfl
        have c_b5_1 := H1.out.cell (b := b5) (cs := #[.int .u64 ax, .int .u64 ay, .int .u64 z]) (t := 44) (by simp) 1 rfl
        have c_b5_2 := H1.out.cell (b := b5) (cs := #[.int .u64 ax, .int .u64 ay, .int .u64 z]) (t := 44) (by simp) 2 rfl
        have c_b3_0 := H1.out.cell (b := b3) (cs := #[.int .u64 x, .int .u64 y]) (t := 37) (by simp) 0 rfl
        have c_b3_1 := H1.out.cell (b := b3) (cs := #[.int .u64 x, .int .u64 y]) (t := 37) (by simp) 1 rfl
        go_wp2_with fail
        refine (cV.out _).mono ?_
        rintro e v2 ⟨rfl, hv2⟩
        have K2 := Lib.hid (H1.out.next hv2)
        clear c_b5_0 c_b5_1 c_b5_2 c_b3_0 c_b3_1
        clear hv2 H1
        have c_b5_0 := K2.out.cell (b := b5) (cs := #[.int .u64 ax, .int .u64 ay, .int .u64 z]) (t := 44) (by simp) 0 rfl
        have c_b5_1 := K2.out.cell (b := b5) (cs := #[.int .u64 ax, .int .u64 ay, .int .u64 z]) (t := 44) (by simp) 1 rfl
        have c_b5_2 := K2.out.cell (b := b5) (cs := #[.int .u64 ax, .int .u64 ay, .int .u64 z]) (t := 44) (by simp) 2 rfl
        have c_b3_0 := K2.out.cell (b := b3) (cs := #[.int .u64 x, .int .u64 y]) (t := 37) (by simp) 0 rfl
        have c_b3_1 := K2.out.cell (b := b3) (cs := #[.int .u64 x, .int .u64 y]) (t := 37) (by simp) 1 rfl
        go_wp2_with fail
        refine (cIP.out _).mono ?_
        rintro e v3 ⟨rfl, hv3⟩
        have K3 := Lib.hid (K2.out.next hv3)
        clear c_b5_0 c_b5_1 c_b5_2 c_b3_0 c_b3_1
        clear hv3 K2
        have c_b5_0 := K3.out.cell (b := b5) (cs := #[.int .u64 ax, .int .u64 ay, .int .u64 z]) (t := 44) (by simp) 0 rfl
        have c_b5_1 := K3.out.cell (b := b5) (cs := #[.int .u64 ax, .int .u64 ay, .int .u64 z]) (t := 44) (by simp) 1 rfl
        have c_b5_2 := K3.out.cell (b := b5) (cs := #[.int .u64 ax, .int .u64 ay, .int .u64 z]) (t := 44) (by simp) 2 rfl
        have c_b3_0 := K3.out.cell (b := b3) (cs := #[.int .u64 x, .int .u64 y]) (t := 37) (by simp) 0 rfl
        have c_b3_1 := K3.out.cell (b := b3) (cs := #[.int .u64 x, .int .u64 y]) (t := 37) (by simp) 1 rfl
        go_wp2_with fail
        go_ret
        exact ⟨rfl, K3.out.2⟩
    · rw [hP] at cIP
      replace cIP := Lib.hid cIP
      cases hA : inN (ax.toNat, ay.toNat)
      · rw [hA] at cIA
        replace cIA := Lib.hid cIA
        have cV := Lib.hid (fun W => sVerA x y ax ay z x0 y0 ax0 ay0 z0 z1 ao len cap hnz.out hA W)
        clear hA hP
        go_enter Tryd.func7, Tryd.ntmps7
        go_wp2_with fail
        have H0 := Lib.hid (((HR.refl w).new #[.int .u64 x, .int .u64 y] 37).new #[.int .u64 ax, .int .u64 ay, .int .u64 z] 44)
        rw [World.size_alloc] at H0
        generalize (w.alloc (.cells #[.int .u64 x, .int .u64 y] 37)).alloc (.cells #[.int .u64 ax, .int .u64 ay, .int .u64 z] 44) = w0 at H0 ⊢
        generalize w.heap.size + 1 = b5 at H0 ⊢
        generalize w.heap.size = b3 at H0 ⊢
        refine (hU.out _ H0.out.2).mono ?_
        rintro e w1 ⟨rfl, hb1⟩
        have H1 := Lib.hid (H0.out.next hb1)
        clear hb1 H0
        have c_b5_0 := H1.out.cell (b := b5) (cs := #[.int .u64 ax, .int .u64 ay, .int .u64 z]) (t := 44) (by simp) 0 rfl
        have c_b5_1 := H1.out.cell (b := b5) (cs := #[.int .u64 ax, .int .u64 ay, .int .u64 z]) (t := 44) (by simp) 1 rfl
        have c_b5_2 := H1.out.cell (b := b5) (cs := #[.int .u64 ax, .int .u64 ay, .int .u64 z]) (t := 44) (by simp) 2 rfl
        have c_b3_0 := H1.out.cell (b := b3) (cs := #[.int .u64 x, .int .u64 y]) (t := 37) (by simp) 0 rfl
        have c_b3_1 := H1.out.cell (b := b3) (cs := #[.int .u64 x, .int .u64 y]) (t := 37) (by simp) 1 rfl
        go_wp2_with fail
        refine (cV.out _).mono ?_
        rintro e v2 ⟨rfl, hv2⟩
        have K2 := Lib.hid (H1.out.next hv2)
        clear c_b5_0 c_b5_1 c_b5_2 c_b3_0 c_b3_1
        clear hv2 H1
        have c_b5_0 := K2.out.cell (b := b5) (cs := #[.int .u64 ax, .int .u64 ay, .int .u64 z]) (t := 44) (by simp) 0 rfl
        have c_b5_1 := K2.out.cell (b := b5) (cs := #[.int .u64 ax, .int .u64 ay, .int .u64 z]) (t := 44) (by simp) 1 rfl
        have c_b5_2 := K2.out.cell (b := b5) (cs := #[.int .u64 ax, .int .u64 ay, .int .u64 z]) (t := 44) (by simp) 2 rfl
        have c_b3_0 := K2.out.cell (b := b3) (cs := #[.int .u64 x, .int .u64 y]) (t := 37) (by simp) 0 rfl
        have c_b3_1 := K2.out.cell (b := b3) (cs := #[.int .u64 x, .int .u64 y]) (t := 37) (by simp) 1 rfl
        go_wp2_with fail
        refine (cIP.out _).mono ?_
        rintro e v3 ⟨rfl, hv3⟩
        have K3 := Lib.hid (K2.out.next hv3)
        clear c_b5_0 c_b5_1 c_b5_2 c_b3_0 c_b3_1
        clear hv3 K2
        have c_b5_0 := K3.out.cell (b := b5) (cs := #[.int .u64 ax, .int .u64 ay, .int .u64 z]) (t := 44) (by simp) 0 rfl
        have c_b5_1 := K3.out.cell (b := b5) (cs := #[.int .u64 ax, .int .u64 ay, .int .u64 z]) (t := 44) (by simp) 1 rfl
        have c_b5_2 := K3.out.cell (b := b5) (cs := #[.int .u64 ax, .int .u64 ay, .int .u64 z]) (t := 44) (by simp) 2 rfl
        have c_b3_0 := K3.out.cell (b := b3) (cs := #[.int .u64 x, .int .u64 y]) (t := 37) (by simp) 0 rfl
        have c_b3_1 := K3.out.cell (b := b3) (cs := #[.int .u64 x, .int .u64 y]) (t := 37) (by simp) 1 rfl
        go_wp2_with fail
        refine (cIA.out _).mono ?_
        rintro e v4 ⟨rfl, hv4⟩
        have K4 := Lib.hid (K3.out.next hv4)
        clear c_b5_0 c_b5_1 c_b5_2 c_b3_0 c_b3_1
        clear hv4 K3
        have c_b5_0 := K4.out.cell (b := b5) (cs := #[.int .u64 ax, .int .u64 ay, .int .u64 z]) (t := 44) (by simp) 0 rfl
        have c_b5_1 := K4.out.cell (b := b5) (cs := #[.int .u64 ax, .int .u64 ay, .int .u64 z]) (t := 44) (by simp) 1 rfl
        have c_b5_2 := K4.out.cell (b := b5) (cs := #[.int .u64 ax, .int .u64 ay, .int .u64 z]) (t := 44) (by simp) 2 rfl
        have c_b3_0 := K4.out.cell (b := b3) (cs := #[.int .u64 x, .int .u64 y]) (t := 37) (by simp) 0 rfl
        have c_b3_1 := K4.out.cell (b := b3) (cs := #[.int .u64 x, .int .u64 y]) (t := 37) (by simp) 1 rfl
        go_wp2_with fail
        go_ret
        exact ⟨rfl, K4.out.2⟩
      · rw [hA] at cIA
        replace cIA := Lib.hid cIA
        by_cases hz : z < 72057593894066549
        · obtain ⟨A, hvA, hSA⟩ := in_pt ax0 ay0 hA
          obtain ⟨P, hvP, hSP⟩ := in_pt x0 y0 hP
          have cQ := fun W (hw : Below w.heap.size w W) => lQues ax ay x y ax0 ay0 x0 y0 A P hvA hvP ao len cap M H.out (by omega) W (hS.out.at hw)
          have hqlt := quesP_lt A P M
          have cT1 := fun w => rTimesG z z0 z1 w
          have cVY := fun h W (hw : Below w.heap.size w W) => sVerY x y ax ay z x0 y0 ax0 ay0 z0 z1 ao len cap hnz.out A P hvA hvP hSA hSP hz M H.out (by omega) h W (hS.out.at hw) (hG'.out.below hw)
          have cVN := fun h W (hw : Below w.heap.size w W) => sVerN x y ax ay z x0 y0 ax0 ay0 z0 z1 ao len cap hnz.out A P hvA hvP hSA hSP hz M H.out (by omega) h W (hS.out.at hw) (hG'.out.below hw)
          generalize Obol.quesP A P M = q0 at cQ hqlt cVY cVN
          obtain ⟨q, hq⟩ : ∃ q : Int, ((q0 : Nat) : Int) = q := ⟨_, rfl⟩
          rw [hq] at cQ
          have cT2 := fun w => rTimes x y q x0 y0 (by omega) (by omega) P hvP w
          rw [show q.toNat = q0 by omega] at cT2
          obtain ⟨mx, my, mx0, my0, -, -, hvM, -⟩ := coordsN (Obol.Pnt.smul q0 P)
          have cSum := fun w => rSum ax ay mx my ax0 ay0 mx0 my0 A _ hvA hvM w
          obtain ⟨sx, sy, -, -, -, -, hvS, hnS⟩ := coordsN (A.add (Obol.Pnt.smul q0 P))
          rw [hvM] at cT2
          rw [hvS] at cSum
          replace cQ := Lib.hid cQ
          replace cT2 := Lib.hid cT2
          replace cSum := Lib.hid cSum
          by_cases hC : Obol.Pnt.smul z.toNat Obol.G = A.add (Obol.Pnt.smul q0 P)
          · have cV := Lib.hid (cVY hC)
            rw [hC, hvS] at cT1
            replace cT1 := Lib.hid cT1
            clear hC cVY cVN hvS hnS hvM hq hqlt hvA hSA hvP hSP hA hP
            go_enter Tryd.func7, Tryd.ntmps7
            go_wp2_with fail
            have H0 := Lib.hid (((HR.refl w).new #[.int .u64 x, .int .u64 y] 37).new #[.int .u64 ax, .int .u64 ay, .int .u64 z] 44)
            rw [World.size_alloc] at H0
            generalize (w.alloc (.cells #[.int .u64 x, .int .u64 y] 37)).alloc (.cells #[.int .u64 ax, .int .u64 ay, .int .u64 z] 44) = w0 at H0 ⊢
            generalize w.heap.size + 1 = b5 at H0 ⊢
            generalize w.heap.size = b3 at H0 ⊢
            refine (hU.out _ H0.out.2).mono ?_
            rintro e w1 ⟨rfl, hb1⟩
            have H1 := Lib.hid (H0.out.next hb1)
            clear hb1 H0
            have c_b5_0 := H1.out.cell (b := b5) (cs := #[.int .u64 ax, .int .u64 ay, .int .u64 z]) (t := 44) (by simp) 0 rfl
            have c_b5_1 := H1.out.cell (b := b5) (cs := #[.int .u64 ax, .int .u64 ay, .int .u64 z]) (t := 44) (by simp) 1 rfl
            have c_b5_2 := H1.out.cell (b := b5) (cs := #[.int .u64 ax, .int .u64 ay, .int .u64 z]) (t := 44) (by simp) 2 rfl
            have c_b3_0 := H1.out.cell (b := b3) (cs := #[.int .u64 x, .int .u64 y]) (t := 37) (by simp) 0 rfl
            have c_b3_1 := H1.out.cell (b := b3) (cs := #[.int .u64 x, .int .u64 y]) (t := 37) (by simp) 1 rfl
            go_wp2_with fail
            refine (cV.out _ H1.out.2).mono ?_
            rintro e v2 ⟨rfl, hv2⟩
            have K2 := Lib.hid (H1.out.next hv2)
            clear c_b5_0 c_b5_1 c_b5_2 c_b3_0 c_b3_1
            clear hv2 H1
            have c_b5_0 := K2.out.cell (b := b5) (cs := #[.int .u64 ax, .int .u64 ay, .int .u64 z]) (t := 44) (by simp) 0 rfl
            have c_b5_1 := K2.out.cell (b := b5) (cs := #[.int .u64 ax, .int .u64 ay, .int .u64 z]) (t := 44) (by simp) 1 rfl
            have c_b5_2 := K2.out.cell (b := b5) (cs := #[.int .u64 ax, .int .u64 ay, .int .u64 z]) (t := 44) (by simp) 2 rfl
            have c_b3_0 := K2.out.cell (b := b3) (cs := #[.int .u64 x, .int .u64 y]) (t := 37) (by simp) 0 rfl
            have c_b3_1 := K2.out.cell (b := b3) (cs := #[.int .u64 x, .int .u64 y]) (t := 37) (by simp) 1 rfl
            go_wp2_with fail
            refine (cIP.out _).mono ?_
            rintro e v3 ⟨rfl, hv3⟩
            have K3 := Lib.hid (K2.out.next hv3)
            clear c_b5_0 c_b5_1 c_b5_2 c_b3_0 c_b3_1
            clear hv3 K2
            have c_b5_0 := K3.out.cell (b := b5) (cs := #[.int .u64 ax, .int .u64 ay, .int .u64 z]) (t := 44) (by simp) 0 rfl
            have c_b5_1 := K3.out.cell (b := b5) (cs := #[.int .u64 ax, .int .u64 ay, .int .u64 z]) (t := 44) (by simp) 1 rfl
            have c_b5_2 := K3.out.cell (b := b5) (cs := #[.int .u64 ax, .int .u64 ay, .int .u64 z]) (t := 44) (by simp) 2 rfl
            have c_b3_0 := K3.out.cell (b := b3) (cs := #[.int .u64 x, .int .u64 y]) (t := 37) (by simp) 0 rfl
            have c_b3_1 := K3.out.cell (b := b3) (cs := #[.int .u64 x, .int .u64 y]) (t := 37) (by simp) 1 rfl
            go_wp2_with fail
            refine (cIA.out _).mono ?_
            rintro e v4 ⟨rfl, hv4⟩
            have K4 := Lib.hid (K3.out.next hv4)
            clear c_b5_0 c_b5_1 c_b5_2 c_b3_0 c_b3_1
            clear hv4 K3
            have c_b5_0 := K4.out.cell (b := b5) (cs := #[.int .u64 ax, .int .u64 ay, .int .u64 z]) (t := 44) (by simp) 0 rfl
            have c_b5_1 := K4.out.cell (b := b5) (cs := #[.int .u64 ax, .int .u64 ay, .int .u64 z]) (t := 44) (by simp) 1 rfl
            have c_b5_2 := K4.out.cell (b := b5) (cs := #[.int .u64 ax, .int .u64 ay, .int .u64 z]) (t := 44) (by simp) 2 rfl
            have c_b3_0 := K4.out.cell (b := b3) (cs := #[.int .u64 x, .int .u64 y]) (t := 37) (by simp) 0 rfl
            have c_b3_1 := K4.out.cell (b := b3) (cs := #[.int .u64 x, .int .u64 y]) (t := 37) (by simp) 1 rfl
            go_wp2_with fail
            refine (cQ.out _ K4.out.2).mono ?_
            rintro e v5 ⟨rfl, hv5⟩
            have K5 := Lib.hid (K4.out.next hv5)
            clear c_b5_0 c_b5_1 c_b5_2 c_b3_0 c_b3_1
            clear hv5 K4
            have c_b5_0 := K5.out.cell (b := b5) (cs := #[.int .u64 ax, .int .u64 ay, .int .u64 z]) (t := 44) (by simp) 0 rfl
            have c_b5_1 := K5.out.cell (b := b5) (cs := #[.int .u64 ax, .int .u64 ay, .int .u64 z]) (t := 44) (by simp) 1 rfl
            have c_b5_2 := K5.out.cell (b := b5) (cs := #[.int .u64 ax, .int .u64 ay, .int .u64 z]) (t := 44) (by simp) 2 rfl
            have c_b3_0 := K5.out.cell (b := b3) (cs := #[.int .u64 x, .int .u64 y]) (t := 37) (by simp) 0 rfl
            have c_b3_1 := K5.out.cell (b := b3) (cs := #[.int .u64 x, .int .u64 y]) (t := 37) (by simp) 1 rfl
            go_wp2_with fail
            refine wp_region_noPanic ?_
            refine wp_region_held_drew (S := fun wq => wq.cell? ⟨b5, 0, none⟩ = some (.int .u64 ax) ∧ wq.cell? ⟨b5, 1, none⟩ = some (.int .u64 ay) ∧ wq.cell? ⟨b5, 2, none⟩ = some (.int .u64 z) ∧ wq.cell? ⟨b3, 0, none⟩ = some (.int .u64 x) ∧ wq.cell? ⟨b3, 1, none⟩ = some (.int .u64 y) ∧ HR w wq [(b5, #[.int .u64 ax, .int .u64 ay, .int .u64 z], 44), (b3, #[.int .u64 x, .int .u64 y], 37)]) (by kernel_rfl) ?_ (fun hHeld => ?_)
            · have hq0 := HR.drew K5.out
              exact ⟨HR.cell hq0 (b := b5) (cs := #[.int .u64 ax, .int .u64 ay, .int .u64 z]) (t := 44) (by simp) 0 rfl, HR.cell hq0 (b := b5) (cs := #[.int .u64 ax, .int .u64 ay, .int .u64 z]) (t := 44) (by simp) 1 rfl, HR.cell hq0 (b := b5) (cs := #[.int .u64 ax, .int .u64 ay, .int .u64 z]) (t := 44) (by simp) 2 rfl, HR.cell hq0 (b := b3) (cs := #[.int .u64 x, .int .u64 y]) (t := 37) (by simp) 0 rfl, HR.cell hq0 (b := b3) (cs := #[.int .u64 x, .int .u64 y]) (t := 37) (by simp) 1 rfl, hq0⟩
            refine takeH 1 (fun _ _ _ _ _ h => h) (by kernel_rfl) hHeld rfl (by kernel_rfl) (by rfl) (v := ?_) ?_ ?_
            rotate_left
            ((intro wz hz; (try dsimp only at hz); go_simp) <;> with_reducible rfl)
            try simp only [Act.put, List.setIfInBounds_toArray, List.set_cons_zero, List.set_cons_succ]
            refine takeH 2 (fun _ _ _ _ _ h => h) (by kernel_rfl) hHeld rfl (by kernel_rfl) (by rfl) (v := ?_) ?_ ?_
            rotate_left
            ((intro wz hz; (try dsimp only at hz); go_simp) <;> with_reducible rfl)
            try simp only [Act.put, List.setIfInBounds_toArray, List.set_cons_zero, List.set_cons_succ]
            refine takeH 4 (fun _ _ _ _ _ h => h) (by kernel_rfl) hHeld rfl (by kernel_rfl) (by rfl) (v := ?_) ?_ ?_
            rotate_left
            ((intro wz hz; (try dsimp only at hz); go_simp) <;> with_reducible rfl)
            try simp only [Act.put, List.setIfInBounds_toArray, List.set_cons_zero, List.set_cons_succ]
            refine takeH 5 (fun _ _ _ _ _ h => h) (by kernel_rfl) hHeld rfl (by kernel_rfl) (by rfl) (v := ?_) ?_ ?_
            rotate_left
            ((intro wz hz; (try dsimp only at hz); go_simp) <;> with_reducible rfl)
            try simp only [Act.put, List.setIfInBounds_toArray, List.set_cons_zero, List.set_cons_succ]
            refine takeH 6 (fun _ _ _ _ _ h => h) (by kernel_rfl) hHeld rfl (by kernel_rfl) (by rfl) (v := ?_) ?_ ?_
            rotate_left
            ((intro wz hz; (try dsimp only at hz); go_simp) <;> with_reducible rfl)
            try simp only [Act.put, List.setIfInBounds_toArray, List.set_cons_zero, List.set_cons_succ]
            refine takeH 7 (fun _ _ _ _ _ h => h) (by kernel_rfl) hHeld rfl (by kernel_rfl) (by rfl) (v := ?_) ?_ ?_
            rotate_left
            ((intro wz hz; (try dsimp only at hz); go_simp) <;> with_reducible rfl)
            try simp only [Act.put, List.setIfInBounds_toArray, List.set_cons_zero, List.set_cons_succ]
            refine stepH 0 (by kernel_rfl) rfl (by rfl) (fun K hK => ?_)
            go_simp
            refine (r7Gen _).mono ?_
            rintro e wc1 ⟨rfl, hbc1⟩
            have hrc1 := HR.next hHeld.2.2.2.2.2 hbc1
            refine hK.out _ _ ?_ (fun hHeld => ?_)
            · exact ⟨HR.cell hrc1 (b := b5) (cs := #[.int .u64 ax, .int .u64 ay, .int .u64 z]) (t := 44) (by simp) 0 rfl, HR.cell hrc1 (b := b5) (cs := #[.int .u64 ax, .int .u64 ay, .int .u64 z]) (t := 44) (by simp) 1 rfl, HR.cell hrc1 (b := b5) (cs := #[.int .u64 ax, .int .u64 ay, .int .u64 z]) (t := 44) (by simp) 2 rfl, HR.cell hrc1 (b := b3) (cs := #[.int .u64 x, .int .u64 y]) (t := 37) (by simp) 0 rfl, HR.cell hrc1 (b := b3) (cs := #[.int .u64 x, .int .u64 y]) (t := 37) (by simp) 1 rfl, hrc1⟩
            clear hK K
            try simp only [Act.put, List.setIfInBounds_toArray, List.set_cons_zero, List.set_cons_succ]
            refine stepH 3 (by kernel_rfl) rfl (by rfl) (fun K hK => ?_)
            go_simp
            refine (cT1.out _).mono ?_
            rintro e wc2 ⟨rfl, hbc2⟩
            have hrc2 := HR.next hHeld.2.2.2.2.2 hbc2
            refine hK.out _ _ ?_ (fun hHeld => ?_)
            · exact ⟨HR.cell hrc2 (b := b5) (cs := #[.int .u64 ax, .int .u64 ay, .int .u64 z]) (t := 44) (by simp) 0 rfl, HR.cell hrc2 (b := b5) (cs := #[.int .u64 ax, .int .u64 ay, .int .u64 z]) (t := 44) (by simp) 1 rfl, HR.cell hrc2 (b := b5) (cs := #[.int .u64 ax, .int .u64 ay, .int .u64 z]) (t := 44) (by simp) 2 rfl, HR.cell hrc2 (b := b3) (cs := #[.int .u64 x, .int .u64 y]) (t := 37) (by simp) 0 rfl, HR.cell hrc2 (b := b3) (cs := #[.int .u64 x, .int .u64 y]) (t := 37) (by simp) 1 rfl, hrc2⟩
            clear hK K
            try simp only [Act.put, List.setIfInBounds_toArray, List.set_cons_zero, List.set_cons_succ]
            refine stepH 8 (by kernel_rfl) rfl (by rfl) (fun K hK => ?_)
            go_simp
            refine (cT2.out _).mono ?_
            rintro e wc3 ⟨rfl, hbc3⟩
            have hrc3 := HR.next hHeld.2.2.2.2.2 hbc3
            refine hK.out _ _ ?_ (fun hHeld => ?_)
            · exact ⟨HR.cell hrc3 (b := b5) (cs := #[.int .u64 ax, .int .u64 ay, .int .u64 z]) (t := 44) (by simp) 0 rfl, HR.cell hrc3 (b := b5) (cs := #[.int .u64 ax, .int .u64 ay, .int .u64 z]) (t := 44) (by simp) 1 rfl, HR.cell hrc3 (b := b5) (cs := #[.int .u64 ax, .int .u64 ay, .int .u64 z]) (t := 44) (by simp) 2 rfl, HR.cell hrc3 (b := b3) (cs := #[.int .u64 x, .int .u64 y]) (t := 37) (by simp) 0 rfl, HR.cell hrc3 (b := b3) (cs := #[.int .u64 x, .int .u64 y]) (t := 37) (by simp) 1 rfl, hrc3⟩
            clear hK K
            try simp only [Act.put, List.setIfInBounds_toArray, List.set_cons_zero, List.set_cons_succ]
            refine stepH 9 (by kernel_rfl) rfl (by rfl) (fun K hK => ?_)
            go_simp
            refine (cSum.out _).mono ?_
            rintro e wc4 ⟨rfl, hbc4⟩
            have hrc4 := HR.next hHeld.2.2.2.2.2 hbc4
            refine hK.out _ _ ?_ (fun hHeld => ?_)
            · exact ⟨HR.cell hrc4 (b := b5) (cs := #[.int .u64 ax, .int .u64 ay, .int .u64 z]) (t := 44) (by simp) 0 rfl, HR.cell hrc4 (b := b5) (cs := #[.int .u64 ax, .int .u64 ay, .int .u64 z]) (t := 44) (by simp) 1 rfl, HR.cell hrc4 (b := b5) (cs := #[.int .u64 ax, .int .u64 ay, .int .u64 z]) (t := 44) (by simp) 2 rfl, HR.cell hrc4 (b := b3) (cs := #[.int .u64 x, .int .u64 y]) (t := 37) (by simp) 0 rfl, HR.cell hrc4 (b := b3) (cs := #[.int .u64 x, .int .u64 y]) (t := 37) (by simp) 1 rfl, hrc4⟩
            clear hK K
            try simp only [Act.put, List.setIfInBounds_toArray, List.set_cons_zero, List.set_cons_succ]
            refine takeH 10 (fun _ _ _ _ _ h => h) (by kernel_rfl) hHeld rfl (by kernel_rfl) (by rfl) (v := ?_) ?_ ?_
            rotate_left
            ((intro wz hz; (try dsimp only at hz); go_simp) <;> with_reducible rfl)
            try simp only [Act.put, List.setIfInBounds_toArray, List.set_cons_zero, List.set_cons_succ]
            refine takeH 11 (fun _ _ _ _ _ h => h) (by kernel_rfl) hHeld rfl (by kernel_rfl) (by rfl) (v := ?_) ?_ ?_
            rotate_left
            ((intro wz hz; (try dsimp only at hz); go_simp) <;> with_reducible rfl)
            try simp only [Act.put, List.setIfInBounds_toArray, List.set_cons_zero, List.set_cons_succ]
            refine wpAnyH_done (by kernel_rfl) (NoPanic.normal ?_) _
            have HB := Lib.hid (hHeld.2.2.2.2.2.2)
            clear hHeld
            go_wp2_with fail
            go_ret
            exact ⟨rfl, HB.out⟩
          · have cV := Lib.hid (cVN hC)
            obtain ⟨tx, ty, -, -, -, -, hvT, hnT⟩ := coordsN (Obol.Pnt.smul z.toNat Obol.G)
            rw [hvT] at cT1
            have hne := Lib.hid (fun (he : tx = sx ∧ ty = sy) => hC (Obol.Pnt.n_inj (by rw [← hnS, ← hnT, he.1, he.2])))
            replace cT1 := Lib.hid cT1
            clear hC cVY cVN hvS hnS hvM hq hqlt hvA hSA hvP hSP hA hP hvT hnT
            go_enter Tryd.func7, Tryd.ntmps7
            go_wp2_with fail
            have H0 := Lib.hid (((HR.refl w).new #[.int .u64 x, .int .u64 y] 37).new #[.int .u64 ax, .int .u64 ay, .int .u64 z] 44)
            rw [World.size_alloc] at H0
            generalize (w.alloc (.cells #[.int .u64 x, .int .u64 y] 37)).alloc (.cells #[.int .u64 ax, .int .u64 ay, .int .u64 z] 44) = w0 at H0 ⊢
            generalize w.heap.size + 1 = b5 at H0 ⊢
            generalize w.heap.size = b3 at H0 ⊢
            refine (hU.out _ H0.out.2).mono ?_
            rintro e w1 ⟨rfl, hb1⟩
            have H1 := Lib.hid (H0.out.next hb1)
            clear hb1 H0
            have c_b5_0 := H1.out.cell (b := b5) (cs := #[.int .u64 ax, .int .u64 ay, .int .u64 z]) (t := 44) (by simp) 0 rfl
            have c_b5_1 := H1.out.cell (b := b5) (cs := #[.int .u64 ax, .int .u64 ay, .int .u64 z]) (t := 44) (by simp) 1 rfl
            have c_b5_2 := H1.out.cell (b := b5) (cs := #[.int .u64 ax, .int .u64 ay, .int .u64 z]) (t := 44) (by simp) 2 rfl
            have c_b3_0 := H1.out.cell (b := b3) (cs := #[.int .u64 x, .int .u64 y]) (t := 37) (by simp) 0 rfl
            have c_b3_1 := H1.out.cell (b := b3) (cs := #[.int .u64 x, .int .u64 y]) (t := 37) (by simp) 1 rfl
            go_wp2_with fail
            refine (cV.out _ H1.out.2).mono ?_
            rintro e v2 ⟨rfl, hv2⟩
            have K2 := Lib.hid (H1.out.next hv2)
            clear c_b5_0 c_b5_1 c_b5_2 c_b3_0 c_b3_1
            clear hv2 H1
            have c_b5_0 := K2.out.cell (b := b5) (cs := #[.int .u64 ax, .int .u64 ay, .int .u64 z]) (t := 44) (by simp) 0 rfl
            have c_b5_1 := K2.out.cell (b := b5) (cs := #[.int .u64 ax, .int .u64 ay, .int .u64 z]) (t := 44) (by simp) 1 rfl
            have c_b5_2 := K2.out.cell (b := b5) (cs := #[.int .u64 ax, .int .u64 ay, .int .u64 z]) (t := 44) (by simp) 2 rfl
            have c_b3_0 := K2.out.cell (b := b3) (cs := #[.int .u64 x, .int .u64 y]) (t := 37) (by simp) 0 rfl
            have c_b3_1 := K2.out.cell (b := b3) (cs := #[.int .u64 x, .int .u64 y]) (t := 37) (by simp) 1 rfl
            go_wp2_with fail
            refine (cIP.out _).mono ?_
            rintro e v3 ⟨rfl, hv3⟩
            have K3 := Lib.hid (K2.out.next hv3)
            clear c_b5_0 c_b5_1 c_b5_2 c_b3_0 c_b3_1
            clear hv3 K2
            have c_b5_0 := K3.out.cell (b := b5) (cs := #[.int .u64 ax, .int .u64 ay, .int .u64 z]) (t := 44) (by simp) 0 rfl
            have c_b5_1 := K3.out.cell (b := b5) (cs := #[.int .u64 ax, .int .u64 ay, .int .u64 z]) (t := 44) (by simp) 1 rfl
            have c_b5_2 := K3.out.cell (b := b5) (cs := #[.int .u64 ax, .int .u64 ay, .int .u64 z]) (t := 44) (by simp) 2 rfl
            have c_b3_0 := K3.out.cell (b := b3) (cs := #[.int .u64 x, .int .u64 y]) (t := 37) (by simp) 0 rfl
            have c_b3_1 := K3.out.cell (b := b3) (cs := #[.int .u64 x, .int .u64 y]) (t := 37) (by simp) 1 rfl
            go_wp2_with fail
            refine (cIA.out _).mono ?_
            rintro e v4 ⟨rfl, hv4⟩
            have K4 := Lib.hid (K3.out.next hv4)
            clear c_b5_0 c_b5_1 c_b5_2 c_b3_0 c_b3_1
            clear hv4 K3
            have c_b5_0 := K4.out.cell (b := b5) (cs := #[.int .u64 ax, .int .u64 ay, .int .u64 z]) (t := 44) (by simp) 0 rfl
            have c_b5_1 := K4.out.cell (b := b5) (cs := #[.int .u64 ax, .int .u64 ay, .int .u64 z]) (t := 44) (by simp) 1 rfl
            have c_b5_2 := K4.out.cell (b := b5) (cs := #[.int .u64 ax, .int .u64 ay, .int .u64 z]) (t := 44) (by simp) 2 rfl
            have c_b3_0 := K4.out.cell (b := b3) (cs := #[.int .u64 x, .int .u64 y]) (t := 37) (by simp) 0 rfl
            have c_b3_1 := K4.out.cell (b := b3) (cs := #[.int .u64 x, .int .u64 y]) (t := 37) (by simp) 1 rfl
            go_wp2_with fail
            refine (cQ.out _ K4.out.2).mono ?_
            rintro e v5 ⟨rfl, hv5⟩
            have K5 := Lib.hid (K4.out.next hv5)
            clear c_b5_0 c_b5_1 c_b5_2 c_b3_0 c_b3_1
            clear hv5 K4
            have c_b5_0 := K5.out.cell (b := b5) (cs := #[.int .u64 ax, .int .u64 ay, .int .u64 z]) (t := 44) (by simp) 0 rfl
            have c_b5_1 := K5.out.cell (b := b5) (cs := #[.int .u64 ax, .int .u64 ay, .int .u64 z]) (t := 44) (by simp) 1 rfl
            have c_b5_2 := K5.out.cell (b := b5) (cs := #[.int .u64 ax, .int .u64 ay, .int .u64 z]) (t := 44) (by simp) 2 rfl
            have c_b3_0 := K5.out.cell (b := b3) (cs := #[.int .u64 x, .int .u64 y]) (t := 37) (by simp) 0 rfl
            have c_b3_1 := K5.out.cell (b := b3) (cs := #[.int .u64 x, .int .u64 y]) (t := 37) (by simp) 1 rfl
            go_wp2_with fail
            refine wp_region_noPanic ?_
            refine wp_region_held_drew (S := fun wq => wq.cell? ⟨b5, 0, none⟩ = some (.int .u64 ax) ∧ wq.cell? ⟨b5, 1, none⟩ = some (.int .u64 ay) ∧ wq.cell? ⟨b5, 2, none⟩ = some (.int .u64 z) ∧ wq.cell? ⟨b3, 0, none⟩ = some (.int .u64 x) ∧ wq.cell? ⟨b3, 1, none⟩ = some (.int .u64 y) ∧ HR w wq [(b5, #[.int .u64 ax, .int .u64 ay, .int .u64 z], 44), (b3, #[.int .u64 x, .int .u64 y], 37)]) (by kernel_rfl) ?_ (fun hHeld => ?_)
            · have hq0 := HR.drew K5.out
              exact ⟨HR.cell hq0 (b := b5) (cs := #[.int .u64 ax, .int .u64 ay, .int .u64 z]) (t := 44) (by simp) 0 rfl, HR.cell hq0 (b := b5) (cs := #[.int .u64 ax, .int .u64 ay, .int .u64 z]) (t := 44) (by simp) 1 rfl, HR.cell hq0 (b := b5) (cs := #[.int .u64 ax, .int .u64 ay, .int .u64 z]) (t := 44) (by simp) 2 rfl, HR.cell hq0 (b := b3) (cs := #[.int .u64 x, .int .u64 y]) (t := 37) (by simp) 0 rfl, HR.cell hq0 (b := b3) (cs := #[.int .u64 x, .int .u64 y]) (t := 37) (by simp) 1 rfl, hq0⟩
            refine takeH 1 (fun _ _ _ _ _ h => h) (by kernel_rfl) hHeld rfl (by kernel_rfl) (by rfl) (v := ?_) ?_ ?_
            rotate_left
            ((intro wz hz; (try dsimp only at hz); go_simp) <;> with_reducible rfl)
            try simp only [Act.put, List.setIfInBounds_toArray, List.set_cons_zero, List.set_cons_succ]
            refine takeH 2 (fun _ _ _ _ _ h => h) (by kernel_rfl) hHeld rfl (by kernel_rfl) (by rfl) (v := ?_) ?_ ?_
            rotate_left
            ((intro wz hz; (try dsimp only at hz); go_simp) <;> with_reducible rfl)
            try simp only [Act.put, List.setIfInBounds_toArray, List.set_cons_zero, List.set_cons_succ]
            refine takeH 4 (fun _ _ _ _ _ h => h) (by kernel_rfl) hHeld rfl (by kernel_rfl) (by rfl) (v := ?_) ?_ ?_
            rotate_left
            ((intro wz hz; (try dsimp only at hz); go_simp) <;> with_reducible rfl)
            try simp only [Act.put, List.setIfInBounds_toArray, List.set_cons_zero, List.set_cons_succ]
            refine takeH 5 (fun _ _ _ _ _ h => h) (by kernel_rfl) hHeld rfl (by kernel_rfl) (by rfl) (v := ?_) ?_ ?_
            rotate_left
            ((intro wz hz; (try dsimp only at hz); go_simp) <;> with_reducible rfl)
            try simp only [Act.put, List.setIfInBounds_toArray, List.set_cons_zero, List.set_cons_succ]
            refine takeH 6 (fun _ _ _ _ _ h => h) (by kernel_rfl) hHeld rfl (by kernel_rfl) (by rfl) (v := ?_) ?_ ?_
            rotate_left
            ((intro wz hz; (try dsimp only at hz); go_simp) <;> with_reducible rfl)
            try simp only [Act.put, List.setIfInBounds_toArray, List.set_cons_zero, List.set_cons_succ]
            refine takeH 7 (fun _ _ _ _ _ h => h) (by kernel_rfl) hHeld rfl (by kernel_rfl) (by rfl) (v := ?_) ?_ ?_
            rotate_left
            ((intro wz hz; (try dsimp only at hz); go_simp) <;> with_reducible rfl)
            try simp only [Act.put, List.setIfInBounds_toArray, List.set_cons_zero, List.set_cons_succ]
            refine stepH 0 (by kernel_rfl) rfl (by rfl) (fun K hK => ?_)
            go_simp
            refine (r7Gen _).mono ?_
            rintro e wc1 ⟨rfl, hbc1⟩
            have hrc1 := HR.next hHeld.2.2.2.2.2 hbc1
            refine hK.out _ _ ?_ (fun hHeld => ?_)
            · exact ⟨HR.cell hrc1 (b := b5) (cs := #[.int .u64 ax, .int .u64 ay, .int .u64 z]) (t := 44) (by simp) 0 rfl, HR.cell hrc1 (b := b5) (cs := #[.int .u64 ax, .int .u64 ay, .int .u64 z]) (t := 44) (by simp) 1 rfl, HR.cell hrc1 (b := b5) (cs := #[.int .u64 ax, .int .u64 ay, .int .u64 z]) (t := 44) (by simp) 2 rfl, HR.cell hrc1 (b := b3) (cs := #[.int .u64 x, .int .u64 y]) (t := 37) (by simp) 0 rfl, HR.cell hrc1 (b := b3) (cs := #[.int .u64 x, .int .u64 y]) (t := 37) (by simp) 1 rfl, hrc1⟩
            clear hK K
            try simp only [Act.put, List.setIfInBounds_toArray, List.set_cons_zero, List.set_cons_succ]
            refine stepH 3 (by kernel_rfl) rfl (by rfl) (fun K hK => ?_)
            go_simp
            refine (cT1.out _).mono ?_
            rintro e wc2 ⟨rfl, hbc2⟩
            have hrc2 := HR.next hHeld.2.2.2.2.2 hbc2
            refine hK.out _ _ ?_ (fun hHeld => ?_)
            · exact ⟨HR.cell hrc2 (b := b5) (cs := #[.int .u64 ax, .int .u64 ay, .int .u64 z]) (t := 44) (by simp) 0 rfl, HR.cell hrc2 (b := b5) (cs := #[.int .u64 ax, .int .u64 ay, .int .u64 z]) (t := 44) (by simp) 1 rfl, HR.cell hrc2 (b := b5) (cs := #[.int .u64 ax, .int .u64 ay, .int .u64 z]) (t := 44) (by simp) 2 rfl, HR.cell hrc2 (b := b3) (cs := #[.int .u64 x, .int .u64 y]) (t := 37) (by simp) 0 rfl, HR.cell hrc2 (b := b3) (cs := #[.int .u64 x, .int .u64 y]) (t := 37) (by simp) 1 rfl, hrc2⟩
            clear hK K
            try simp only [Act.put, List.setIfInBounds_toArray, List.set_cons_zero, List.set_cons_succ]
            refine stepH 8 (by kernel_rfl) rfl (by rfl) (fun K hK => ?_)
            go_simp
            refine (cT2.out _).mono ?_
            rintro e wc3 ⟨rfl, hbc3⟩
            have hrc3 := HR.next hHeld.2.2.2.2.2 hbc3
            refine hK.out _ _ ?_ (fun hHeld => ?_)
            · exact ⟨HR.cell hrc3 (b := b5) (cs := #[.int .u64 ax, .int .u64 ay, .int .u64 z]) (t := 44) (by simp) 0 rfl, HR.cell hrc3 (b := b5) (cs := #[.int .u64 ax, .int .u64 ay, .int .u64 z]) (t := 44) (by simp) 1 rfl, HR.cell hrc3 (b := b5) (cs := #[.int .u64 ax, .int .u64 ay, .int .u64 z]) (t := 44) (by simp) 2 rfl, HR.cell hrc3 (b := b3) (cs := #[.int .u64 x, .int .u64 y]) (t := 37) (by simp) 0 rfl, HR.cell hrc3 (b := b3) (cs := #[.int .u64 x, .int .u64 y]) (t := 37) (by simp) 1 rfl, hrc3⟩
            clear hK K
            try simp only [Act.put, List.setIfInBounds_toArray, List.set_cons_zero, List.set_cons_succ]
            refine stepH 9 (by kernel_rfl) rfl (by rfl) (fun K hK => ?_)
            go_simp
            refine (cSum.out _).mono ?_
            rintro e wc4 ⟨rfl, hbc4⟩
            have hrc4 := HR.next hHeld.2.2.2.2.2 hbc4
            refine hK.out _ _ ?_ (fun hHeld => ?_)
            · exact ⟨HR.cell hrc4 (b := b5) (cs := #[.int .u64 ax, .int .u64 ay, .int .u64 z]) (t := 44) (by simp) 0 rfl, HR.cell hrc4 (b := b5) (cs := #[.int .u64 ax, .int .u64 ay, .int .u64 z]) (t := 44) (by simp) 1 rfl, HR.cell hrc4 (b := b5) (cs := #[.int .u64 ax, .int .u64 ay, .int .u64 z]) (t := 44) (by simp) 2 rfl, HR.cell hrc4 (b := b3) (cs := #[.int .u64 x, .int .u64 y]) (t := 37) (by simp) 0 rfl, HR.cell hrc4 (b := b3) (cs := #[.int .u64 x, .int .u64 y]) (t := 37) (by simp) 1 rfl, hrc4⟩
            clear hK K
            try simp only [Act.put, List.setIfInBounds_toArray, List.set_cons_zero, List.set_cons_succ]
            refine takeH 10 (fun _ _ _ _ _ h => h) (by kernel_rfl) hHeld rfl (by kernel_rfl) (by rfl) (v := .bool false) ?_ ?_
            · intro wz hz
              (try dsimp only at hz)
              go_simp
              by_cases e1 : tx = sx <;> by_cases e2 : ty = sy <;> simp [e1, e2] <;> exact (hne.out ⟨e1, e2⟩).elim
            try simp only [Act.put, List.setIfInBounds_toArray, List.set_cons_zero, List.set_cons_succ]
            refine takeH 11 (fun _ _ _ _ _ h => h) (by kernel_rfl) hHeld rfl (by kernel_rfl) (by rfl) (v := ?_) ?_ ?_
            rotate_left
            ((intro wz hz; (try dsimp only at hz); go_simp) <;> with_reducible rfl)
            try simp only [Act.put, List.setIfInBounds_toArray, List.set_cons_zero, List.set_cons_succ]
            refine wpAnyH_done (by kernel_rfl) (NoPanic.normal ?_) _
            have HB := Lib.hid (hHeld.2.2.2.2.2.2)
            clear hHeld
            go_wp2_with fail
            go_ret
            exact ⟨rfl, HB.out⟩
        · have hz' : 72057593894066549 ≤ z := by omega
          have cV := Lib.hid (fun W => sVerS x y ax ay z x0 y0 ax0 ay0 z0 z1 ao len cap hnz.out hA hP hz' W)
          clear hA hP
          go_enter Tryd.func7, Tryd.ntmps7
          go_wp2_with fail
          have H0 := Lib.hid (((HR.refl w).new #[.int .u64 x, .int .u64 y] 37).new #[.int .u64 ax, .int .u64 ay, .int .u64 z] 44)
          rw [World.size_alloc] at H0
          generalize (w.alloc (.cells #[.int .u64 x, .int .u64 y] 37)).alloc (.cells #[.int .u64 ax, .int .u64 ay, .int .u64 z] 44) = w0 at H0 ⊢
          generalize w.heap.size + 1 = b5 at H0 ⊢
          generalize w.heap.size = b3 at H0 ⊢
          refine (hU.out _ H0.out.2).mono ?_
          rintro e w1 ⟨rfl, hb1⟩
          have H1 := Lib.hid (H0.out.next hb1)
          clear hb1 H0
          have c_b5_0 := H1.out.cell (b := b5) (cs := #[.int .u64 ax, .int .u64 ay, .int .u64 z]) (t := 44) (by simp) 0 rfl
          have c_b5_1 := H1.out.cell (b := b5) (cs := #[.int .u64 ax, .int .u64 ay, .int .u64 z]) (t := 44) (by simp) 1 rfl
          have c_b5_2 := H1.out.cell (b := b5) (cs := #[.int .u64 ax, .int .u64 ay, .int .u64 z]) (t := 44) (by simp) 2 rfl
          have c_b3_0 := H1.out.cell (b := b3) (cs := #[.int .u64 x, .int .u64 y]) (t := 37) (by simp) 0 rfl
          have c_b3_1 := H1.out.cell (b := b3) (cs := #[.int .u64 x, .int .u64 y]) (t := 37) (by simp) 1 rfl
          go_wp2_with fail
          refine (cV.out _).mono ?_
          rintro e v2 ⟨rfl, hv2⟩
          have K2 := Lib.hid (H1.out.next hv2)
          clear c_b5_0 c_b5_1 c_b5_2 c_b3_0 c_b3_1
          clear hv2 H1
          have c_b5_0 := K2.out.cell (b := b5) (cs := #[.int .u64 ax, .int .u64 ay, .int .u64 z]) (t := 44) (by simp) 0 rfl
          have c_b5_1 := K2.out.cell (b := b5) (cs := #[.int .u64 ax, .int .u64 ay, .int .u64 z]) (t := 44) (by simp) 1 rfl
          have c_b5_2 := K2.out.cell (b := b5) (cs := #[.int .u64 ax, .int .u64 ay, .int .u64 z]) (t := 44) (by simp) 2 rfl
          have c_b3_0 := K2.out.cell (b := b3) (cs := #[.int .u64 x, .int .u64 y]) (t := 37) (by simp) 0 rfl
          have c_b3_1 := K2.out.cell (b := b3) (cs := #[.int .u64 x, .int .u64 y]) (t := 37) (by simp) 1 rfl
          go_wp2_with fail
          refine (cIP.out _).mono ?_
          rintro e v3 ⟨rfl, hv3⟩
          have K3 := Lib.hid (K2.out.next hv3)
          clear c_b5_0 c_b5_1 c_b5_2 c_b3_0 c_b3_1
          clear hv3 K2
          have c_b5_0 := K3.out.cell (b := b5) (cs := #[.int .u64 ax, .int .u64 ay, .int .u64 z]) (t := 44) (by simp) 0 rfl
          have c_b5_1 := K3.out.cell (b := b5) (cs := #[.int .u64 ax, .int .u64 ay, .int .u64 z]) (t := 44) (by simp) 1 rfl
          have c_b5_2 := K3.out.cell (b := b5) (cs := #[.int .u64 ax, .int .u64 ay, .int .u64 z]) (t := 44) (by simp) 2 rfl
          have c_b3_0 := K3.out.cell (b := b3) (cs := #[.int .u64 x, .int .u64 y]) (t := 37) (by simp) 0 rfl
          have c_b3_1 := K3.out.cell (b := b3) (cs := #[.int .u64 x, .int .u64 y]) (t := 37) (by simp) 1 rfl
          go_wp2_with fail
          refine (cIA.out _).mono ?_
          rintro e v4 ⟨rfl, hv4⟩
          have K4 := Lib.hid (K3.out.next hv4)
          clear c_b5_0 c_b5_1 c_b5_2 c_b3_0 c_b3_1
          clear hv4 K3
          have c_b5_0 := K4.out.cell (b := b5) (cs := #[.int .u64 ax, .int .u64 ay, .int .u64 z]) (t := 44) (by simp) 0 rfl
          have c_b5_1 := K4.out.cell (b := b5) (cs := #[.int .u64 ax, .int .u64 ay, .int .u64 z]) (t := 44) (by simp) 1 rfl
          have c_b5_2 := K4.out.cell (b := b5) (cs := #[.int .u64 ax, .int .u64 ay, .int .u64 z]) (t := 44) (by simp) 2 rfl
          have c_b3_0 := K4.out.cell (b := b3) (cs := #[.int .u64 x, .int .u64 y]) (t := 37) (by simp) 0 rfl
          have c_b3_1 := K4.out.cell (b := b3) (cs := #[.int .u64 x, .int .u64 y]) (t := 37) (by simp) 1 rfl
          go_wp2_with fail
          go_ret
          exact ⟨rfl, K4.out.2⟩

end Go.Proofs.YtiffendfojhapaaDoor
