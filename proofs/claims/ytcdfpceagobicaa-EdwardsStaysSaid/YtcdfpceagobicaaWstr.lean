import Derived.Test.YtcdfpceagobicaaWput
import Derived.Test.YtcdfpceagobicaaWup7
import Derived.Deep.RegionHeld3
import Derived.Deep.RegionWith
import Derived.Test.YtcdfpceagobicaaWconv
import Derived.Test.YtcdfpceagobicaaWreg
import Derived.Lib.IfaceEq
/- Bytes as strings; errors held against errors. -/
namespace Go.Proofs.Ytcdfpceagobicaa
open Go.RowKit

theorem eqErr (W : World) (a b : Int) : (binOp .eql 28 (.iface 31 (.int .i64 a)) (.iface 31 (.int .i64 b))).run Try.prog W = .ok (.bool (a == b)) W :=
  Lib.run_eql_iface_int W a b Try.underlying28 (by kernel_rfl) Try.underlying31

theorem readV_some {n : Nat} {p : Nat × Nat} (h : Obol.readN n = .some p) : readV n = .tuple #[edV (p.1 : Nat) (p.2 : Nat), .nilIface] := by
  unfold readV
  rw [h]
theorem readV_code {n : Nat} {X Y : Int} (hX : 0 ≤ X) (hY : 0 ≤ Y) (hn : Obol.isN (X.toNat, Y.toNat) = true) (h : n = Obol.codeN (X.toNat, Y.toNat)) : readV n = .tuple #[edV X Y, .nilIface] := by
  have h1 := Obol.read_code hn
  rw [← h] at h1
  rw [readV_some h1]
  have e1 : (((X.toNat, Y.toNat).1 : Nat) : Int) = X := Int.toNat_of_nonneg hX
  have e2 : (((X.toNat, Y.toNat).2 : Nat) : Int) = Y := Int.toNat_of_nonneg hY
  rw [e1, e2]
theorem eRead8F (o cap : Nat) (b : Nat) (L : List Nat) (H : B8 8 L) (v : Value) (hv : readV (Obol.num8 L) = v) (w : World) (hc : BL w b o L) :
    Calls Try.prog 7 #[.slice (some ⟨b, o, none⟩) 8 cap] w fun e w' => e = .returned v ∧ Below w.heap.size w w' := by
  subst hv
  exact eRead8 b o cap L H w hc

end Go.Proofs.Ytcdfpceagobicaa
