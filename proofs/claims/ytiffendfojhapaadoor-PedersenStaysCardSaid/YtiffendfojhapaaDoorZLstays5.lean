import Derived.Test.YtiffendfojhapaaDoorZLperson
import Derived.Test.YtiffendfojhapaaDoorMC
import Derived.Deep.CutBlock
import Derived.Deep.DeepCutAuto
set_option linter.unusedVariables false
set_option linter.unusedSimpArgs false
/- The walk of the law BlakeStays. -/
namespace Go.Proofs.YtiffendfojhapaaDoor
open Go.RowKit

theorem SlI.at {w W : World} {a : Option Addr} {c : Nat} {R : List Nat} (h : SlI w.heap.size w a c R) (hw : Below w.heap.size w W) : SlI W.heap.size W a c R :=
  ⟨h.le, h.cap, h.no, fun h0 => by
    obtain ⟨b, o, h1, h2, h3⟩ := h.bl h0
    exact ⟨b, o, h1, Nat.lt_of_lt_of_le h2 hw.size, h3.below hw h2⟩⟩
theorem own_sl {w : World} {base g n cap : Nat} {L : List Nat} (h : OwnB w base (.slice (some ⟨g, 0, none⟩) n cap) L) (hn : L.length = n) : SlI w.heap.size w (some ⟨g, 0, none⟩) cap L := by
  subst hn
  exact ⟨(own_cap h).1, (own_cap h).2, (fun h => by cases h), fun _ => ⟨g, 0, rfl, own_lt h, h.bl⟩⟩

end Go.Proofs.YtiffendfojhapaaDoor
