import Derived.Test.YtcdfpceagobicaaLreads
/- The walk of the law EdwardsReads, at every slice. -/
namespace Go.Proofs.Ytcdfpceagobicaa
open Go.RowKit

theorem walkReads (w : World) (a0 : Option Addr) (len cap : Nat) (L : List Nat) (H : B8 len L) (hl : len ≤ cap) (hc : cap ≤ 9223372036854775807) (_ : a0 = none → len = 0 ∧ cap = 0) (hb : 0 < len → ∃ b o, a0 = some ⟨b, o, none⟩ ∧ BL w b o L) :
    Calls Try.prog 3 #[.slice a0 len cap] w fun e w' => e = .returned (.bool true) ∧ Below w.heap.size w w' := by
  by_cases h8 : len = 8
  · subst h8
    obtain ⟨b, o, rfl, hB⟩ := hb (by omega)
    exact walkReads8 b o cap L H w hB
  · exact walkReadsNo a0 len cap h8 (by omega) w

end Go.Proofs.Ytcdfpceagobicaa
