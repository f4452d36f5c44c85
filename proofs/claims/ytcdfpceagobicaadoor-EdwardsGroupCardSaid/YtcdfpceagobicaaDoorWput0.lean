import Derived.Test.YtcdfpceagobicaaDoorWown
import Derived.Test.YtcdfpceagobicaaDoorCodec
/- Walks: package edwards: a number's bytes. -/
namespace Go.Proofs.YtcdfpceagobicaaDoor
open Go.RowKit

theorem take_be (n j : Nat) (h : j < 8) : (Obol.be8 n).take (j + 1) = (Obol.be8 n).take j ++ [n / 2 ^ (56 - 8 * j) % 256] := by
  match j, h with
  | 0, _ => rfl
  | 1, _ => rfl
  | 2, _ => rfl
  | 3, _ => rfl
  | 4, _ => rfl
  | 5, _ => rfl
  | 6, _ => rfl
  | 7, _ => simp [Obol.be8]

set_option maxHeartbeats 1000000 in
theorem ePut (base : Nat) (v : Value) (L : List Nat) (k : Int) (hk0 : 0 ≤ k) (hk1 : k ≤ 18446744073709551615) (hL : L.length ≤ 1000) (w : World) (hB : base ≤ w.heap.size) (hown : OwnB w base v L) :
    Calls Tryd.prog 34 #[v, .int .u64 k] w fun e w' => ∃ v', e = .returned v' ∧ OwnB w' base v' (L ++ Obol.be8 k.toNat) ∧ Below base w w' := by
  obtain ⟨ti, hti, htz, hts, htb⟩ := info_parts info8
  go_enter Tryd.func34, Tryd.ntmps34
  go_wp2_with fail
  go_loopw [0, 5] (fun q1 q2 wr => ∃ j : Nat, j ≤ 8 ∧ q2 = .int .i64 (56 - 8 * (j : Int)) ∧ OwnB wr base q1 (L ++ (Obol.be8 k.toNat).take j) ∧ Below base w wr) (fun _ q2 _ => (8 + intOf q2).toNat)
  case atStart => exact ⟨0, by omega, rfl, by simpa using hown, Below.refl _ _⟩
  case round =>
    obtain ⟨j, hj, rfl, hO, hW⟩ := hrel
    have hsz := hW.size
    by_cases hj8 : j < 8
    · have hlen : (L ++ (Obol.be8 k.toNat).take j).length = L.length + j := by simp [Obol.be8]; omega
      go_wp2_with (first
        | (at_builtin; refine wpList_append_own _ rfl _ _ 22 rfl base 5 ti (.int .u8 0) 1 1 Tryd.underlying22 hti htz hts htb rfl (by decide) _ _ _ rfl (hO.alloc _) ⟨wr.heap.size, 0, none⟩ 1 1 [.int .u8 (k / 2 ^ (56 - 8 * j) % 256)] ?c0 rfl ?c1 ?c2 ?c3 ?c4 ?c5 ?_)
        | go_in)
      case c0 => rfl
      case c1 =>
        intro q u hq
        match q, hq with
        | 0, hq => simp at hq; subst hq; simp [Addr.add]
      case c2 => intro u hu; simp at hu; subst hu; rfl
      case c3 => rw [hlen]; unfold maxLen; omega
      case c4 => rw [hlen]; omega
      case c5 => simp; omega
      · intro v' w1 hown' hgrow _
        have hrow := hO.lt
        have HO : OwnB w1 base v' (L ++ (Obol.be8 k.toNat).take (j + 1)) := by
          have e : L ++ (Obol.be8 k.toNat).take (j + 1) = (L ++ (Obol.be8 k.toNat).take j) ++ [k.toNat / 2 ^ (56 - 8 * j) % 256] := by rw [take_be _ _ hj8, List.append_assoc]
          have e2 : Value.int .u8 (k / 2 ^ (56 - 8 * j) % 256) = Value.int .u8 ((k.toNat / 2 ^ (56 - 8 * j) % 256 : Nat) : Int) := by
            obtain ⟨K, rfl⟩ := Int.eq_ofNat_of_zero_le hk0
            simp
          have e5 : ((L ++ (Obol.be8 k.toNat).take j) ++ [k.toNat / 2 ^ (56 - 8 * j) % 256]).length = L.length + j + 1 := by rw [List.length_append, hlen]; rfl
          unfold OwnB
          rw [e, e5]
          rw [e2] at hown'
          simpa [U8] using hown'
        have HW : Below base w w1 := (hW.alloc (by omega) _).grown hgrow (by simp; omega) (fun q hq => (hrow q hq).1)
        replace HO := Lib.hid HO
        replace HW := Lib.hid HW
        clear hown' hgrow hO hW hrow hlen
        go_wp2
        go_roundw
        case rel => exact ⟨j + 1, by omega, by simp; omega, HO.out, HW.out⟩
        case measure => simp [intOf]; omega
    · obtain rfl : j = 8 := by omega
      go_wp2_with fail
      go_ret
      exact ⟨_, rfl, hO, hW⟩

end Go.Proofs.YtcdfpceagobicaaDoor
