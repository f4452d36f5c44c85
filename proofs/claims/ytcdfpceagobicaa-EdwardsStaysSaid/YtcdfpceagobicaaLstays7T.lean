import Derived.Test.YtcdfpceagobicaaLstays7
/- The walk of the law EdwardsStays, as its row takes it. -/
namespace Go.Proofs.Ytcdfpceagobicaa
open Go.RowKit

theorem walkStaysE (w : World) (X Y : Int) (ao : Option Addr) (len cap : Nat) (L : List Nat) (H : B8 len L) (hl : len ≤ cap) (hc : cap ≤ 140737488351232) (hn : ao = none → len = 0 ∧ cap = 0) (hb : 0 < len → ∃ b o, ao = some ⟨b, o, none⟩ ∧ BL w b o L) (hX : 0 ≤ X) (hY : 0 ≤ Y) :
    Calls Try.prog 5 #[edV X Y, .slice ao len cap] w fun e w' => e = .returned (.bool true) ∧ Below w.heap.size w w' := walkStays7 w X Y hX hY ao len cap L H hl hc hn hb

end Go.Proofs.Ytcdfpceagobicaa
