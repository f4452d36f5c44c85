import Derived.Test.YtkfimfjjmdjbdaaUr
import Derived.Test.YtkfimfjjmdjbdaaUq
import Derived.Test.YtkfimfjjmdjbdaaUs
import Derived.Test.YtkfimfjjmdjbdaaUp
import Derived.Deep.CutBlock
import Derived.Deep.DeepCutAuto
set_option linter.unusedVariables false
set_option linter.unusedSimpArgs false
set_option linter.unusedSectionVars false
/- Walks: the reference of layer 19: what its reader tells. -/
namespace Go.Proofs.Ytkfimfjjmdjbdaa
open Go.RowKit
set_option linter.unusedVariables false
set_option linter.unusedSimpArgs false

/-- The code behind a region. -/
def behind (k : Nat) : Code → Option Code
  | .seq a b => match (match a with
    | .region n _ _ => if n = k then some b else none
    | _ => none) with
    | some c => some c
    | none => match behind k a with
      | some c => some c
      | none => behind k b
  | .loop c => behind k c
  | .block _ c => behind k c
  | .scope c => behind k c
  | .cond _ a b => match behind k a with
    | some c => some c
    | none => behind k b
  | _ => none
noncomputable def rrB (k : Nat) : Code := (Try.f16.body.bind (behind k)).getD .skip
set_option maxRecDepth 100000 in
set_option maxHeartbeats 8000000 in
theorem rrN0 (fa fc fg : Bool) (ao : Option Addr) (len c : Nat) (n : Int) (w w1 : World) (b2 b5 : Nat) (hbs : Hid (b2 ≠ b5 ∧ w.heap.size ≤ b2)) (t : TxD) (H : Hid (HR w w1 [(b5, txC t, 37), (b2, zC, 37)])) (R : Ending → World → Prop)
    (hR3 : ∀ e w', e = .returned (.tuple #[.agg zC, .int .i64 3]) → Below w.heap.size w w' → R e w') {x1 x3 x7 x9 x11 x12 x13 x14 x15 x16 x17 x18 x19 x20 x22 x23 x24 x25 x26 x27 x28 x29 x30 x31 x32 x33 x34 x35 x36 x37 x38 x39 x40 x41 x42 x43 x44 x45 x46 x47 x48 x49 x50 x51 x52 x53 x54 x55 x56 x57 x58 x59 x60 x61 x62 x63 x64 x65 x66 x67 x68 x69 x70 x71 x72 x73 x74 x75 x76 x77 x78 x79 x80 x81 x82 x83 x84 x85 x86 x87 x88 x89 x90 x91 x92 x93 x94 x95 x96 x97 x98 x99 x100 x101 x102 x103 x104 x105 x106 x107 x108 x109 x110 x111 x112 x113 x114 x115 x116 x117 x118 x119 x120 x121 x122 x123 x124 x125 x126 x127 x128 x129 x130 x131 x132 x133 x134 x135 x136 x137 x138 x139 x140 x141 x142 x143 x144 x145 x146 x147 x148 x149 x150 x151 x152 x153 x154 x155 x156 x157 x158 x159 x160 x161 x162 x163 x164 x165 x166 x167 x168 x169 x170 x171 x172 x173 x174 x175 x176 x177 x178 x179 x180 x181 x182 x183 x184 x185 x186 : Value} : Code.wp Try.prog (rrB 34) (bodyPost Try.prog Try.f16 R) ⟨#[.slice ao len c, x1, .pointer (some ⟨b2, 0, none⟩), x3, .int .i64 n, .pointer (some ⟨b5, 0, none⟩), .bool false, x7, .bool fa, x9, .bool fc, x11, x12, x13, x14, x15, x16, x17, x18, x19, x20, .bool fg, x22, x23, x24, x25, x26, x27, x28, x29, x30, x31, x32, x33, x34, x35, x36, x37, x38, x39, x40, x41, x42, x43, x44, x45, x46, x47, x48, x49, x50, x51, x52, x53, x54, x55, x56, x57, x58, x59, x60, x61, x62, x63, x64, x65, x66, x67, x68, x69, x70, x71, x72, x73, x74, x75, x76, x77, x78, x79, x80, x81, x82, x83, x84, x85, x86, x87, x88, x89, x90, x91, x92, x93, x94, x95, x96, x97, x98, x99, x100, x101, x102, x103, x104, x105, x106, x107, x108, x109, x110, x111, x112, x113, x114, x115, x116, x117, x118, x119, x120, x121, x122, x123, x124, x125, x126, x127, x128, x129, x130, x131, x132, x133, x134, x135, x136, x137, x138, x139, x140, x141, x142, x143, x144, x145, x146, x147, x148, x149, x150, x151, x152, x153, x154, x155, x156, x157, x158, x159, x160, x161, x162, x163, x164, x165, x166, x167, x168, x169, x170, x171, x172, x173, x174, x175, x176, x177, x178, x179, x180, x181, x182, x183, x184, x185, x186], []⟩ w1 := by
  conv => arg 2; whnf
  have und := Try.underlying37
  replace hR3 := Lib.hid hR3
  go_upto_region 36 with fail
  have h2 := H.out.row (b := b2) (cs := zC) (t := 37) (by simp)
  have hth := h2.there
  go_wp2_with (refine wpList_store_mid rfl _ _ _ rfl b2 0 zC rfl rfl hth sizTX oneZ ?_)
  have RZ := h2.store (zC) rfl
  have HZ := HR.otherMany (D := b2) (rs := [(b5, txC t, 37)]) (by have := hbs.out; simp; omega) (by have := hbs.out; omega) (zC : Array Value).toList 0 _ (HR.sub H.out (by simp))
  refine bodyPost_ret (v := _) (results_two_row9 rfl _ rfl RZ und rfl sizTX) rfl ?_
  exact hR3.out _ _ rfl HZ.2
set_option maxRecDepth 100000 in
set_option maxHeartbeats 8000000 in
theorem rrN1 (fc fg : Bool) (ao : Option Addr) (len c : Nat) (n : Int) (w w1 : World) (b2 b5 : Nat) (hbs : Hid (b2 ≠ b5 ∧ w.heap.size ≤ b2)) (t : TxD) (H : Hid (HR w w1 [(b5, txC t, 37), (b2, zC, 37)])) (R : Ending → World → Prop)
    (hR3 : ∀ e w', e = .returned (.tuple #[.agg zC, .int .i64 3]) → Below w.heap.size w w' → R e w') {x1 x3 x7 x9 x11 x12 x13 x14 x15 x16 x17 x18 x19 x20 x22 x23 x24 x25 x26 x27 x28 x29 x30 x31 x32 x33 x34 x35 x36 x37 x38 x39 x40 x41 x42 x43 x44 x45 x46 x47 x48 x49 x50 x51 x52 x53 x54 x55 x56 x57 x58 x59 x60 x61 x62 x63 x64 x65 x66 x67 x68 x69 x70 x71 x72 x73 x74 x75 x76 x77 x78 x79 x80 x81 x82 x83 x84 x85 x86 x87 x88 x89 x90 x91 x92 x93 x94 x95 x96 x97 x98 x99 x100 x101 x102 x103 x104 x105 x106 x107 x108 x109 x110 x111 x112 x113 x114 x115 x116 x117 x118 x119 x120 x121 x122 x123 x124 x125 x126 x127 x128 x129 x130 x131 x132 x133 x134 x135 x136 x137 x138 x139 x140 x141 x142 x143 x144 x145 x146 x147 x148 x149 x150 x151 x152 x153 x154 x155 x156 x157 x158 x159 x160 x161 x162 x163 x164 x165 x166 x167 x168 x169 x170 x171 x172 x173 x174 x175 x176 x177 x178 x179 x180 x181 x182 x183 x184 x185 x186 : Value} : Code.wp Try.prog (rrB 34) (bodyPost Try.prog Try.f16 R) ⟨#[.slice ao len c, x1, .pointer (some ⟨b2, 0, none⟩), x3, .int .i64 n, .pointer (some ⟨b5, 0, none⟩), .bool true, x7, .bool false, x9, .bool fc, x11, x12, x13, x14, x15, x16, x17, x18, x19, x20, .bool fg, x22, x23, x24, x25, x26, x27, x28, x29, x30, x31, x32, x33, x34, x35, x36, x37, x38, x39, x40, x41, x42, x43, x44, x45, x46, x47, x48, x49, x50, x51, x52, x53, x54, x55, x56, x57, x58, x59, x60, x61, x62, x63, x64, x65, x66, x67, x68, x69, x70, x71, x72, x73, x74, x75, x76, x77, x78, x79, x80, x81, x82, x83, x84, x85, x86, x87, x88, x89, x90, x91, x92, x93, x94, x95, x96, x97, x98, x99, x100, x101, x102, x103, x104, x105, x106, x107, x108, x109, x110, x111, x112, x113, x114, x115, x116, x117, x118, x119, x120, x121, x122, x123, x124, x125, x126, x127, x128, x129, x130, x131, x132, x133, x134, x135, x136, x137, x138, x139, x140, x141, x142, x143, x144, x145, x146, x147, x148, x149, x150, x151, x152, x153, x154, x155, x156, x157, x158, x159, x160, x161, x162, x163, x164, x165, x166, x167, x168, x169, x170, x171, x172, x173, x174, x175, x176, x177, x178, x179, x180, x181, x182, x183, x184, x185, x186], []⟩ w1 := by
  conv => arg 2; whnf
  have und := Try.underlying37
  replace hR3 := Lib.hid hR3
  go_upto_region 36 with fail
  have h2 := H.out.row (b := b2) (cs := zC) (t := 37) (by simp)
  have hth := h2.there
  go_wp2_with (refine wpList_store_mid rfl _ _ _ rfl b2 0 zC rfl rfl hth sizTX oneZ ?_)
  have RZ := h2.store (zC) rfl
  have HZ := HR.otherMany (D := b2) (rs := [(b5, txC t, 37)]) (by have := hbs.out; simp; omega) (by have := hbs.out; omega) (zC : Array Value).toList 0 _ (HR.sub H.out (by simp))
  refine bodyPost_ret (v := _) (results_two_row9 rfl _ rfl RZ und rfl sizTX) rfl ?_
  exact hR3.out _ _ rfl HZ.2
set_option maxRecDepth 100000 in
set_option maxHeartbeats 8000000 in
theorem rrN2 (fg : Bool) (ao : Option Addr) (len c : Nat) (n : Int) (w w1 : World) (b2 b5 : Nat) (hbs : Hid (b2 ≠ b5 ∧ w.heap.size ≤ b2)) (t : TxD) (H : Hid (HR w w1 [(b5, txC t, 37), (b2, zC, 37)])) (R : Ending → World → Prop)
    (hR3 : ∀ e w', e = .returned (.tuple #[.agg zC, .int .i64 3]) → Below w.heap.size w w' → R e w') {x1 x3 x7 x9 x11 x12 x13 x14 x15 x16 x17 x18 x19 x20 x22 x23 x24 x25 x26 x27 x28 x29 x30 x31 x32 x33 x34 x35 x36 x37 x38 x39 x40 x41 x42 x43 x44 x45 x46 x47 x48 x49 x50 x51 x52 x53 x54 x55 x56 x57 x58 x59 x60 x61 x62 x63 x64 x65 x66 x67 x68 x69 x70 x71 x72 x73 x74 x75 x76 x77 x78 x79 x80 x81 x82 x83 x84 x85 x86 x87 x88 x89 x90 x91 x92 x93 x94 x95 x96 x97 x98 x99 x100 x101 x102 x103 x104 x105 x106 x107 x108 x109 x110 x111 x112 x113 x114 x115 x116 x117 x118 x119 x120 x121 x122 x123 x124 x125 x126 x127 x128 x129 x130 x131 x132 x133 x134 x135 x136 x137 x138 x139 x140 x141 x142 x143 x144 x145 x146 x147 x148 x149 x150 x151 x152 x153 x154 x155 x156 x157 x158 x159 x160 x161 x162 x163 x164 x165 x166 x167 x168 x169 x170 x171 x172 x173 x174 x175 x176 x177 x178 x179 x180 x181 x182 x183 x184 x185 x186 : Value} : Code.wp Try.prog (rrB 34) (bodyPost Try.prog Try.f16 R) ⟨#[.slice ao len c, x1, .pointer (some ⟨b2, 0, none⟩), x3, .int .i64 n, .pointer (some ⟨b5, 0, none⟩), .bool true, x7, .bool true, x9, .bool false, x11, x12, x13, x14, x15, x16, x17, x18, x19, x20, .bool fg, x22, x23, x24, x25, x26, x27, x28, x29, x30, x31, x32, x33, x34, x35, x36, x37, x38, x39, x40, x41, x42, x43, x44, x45, x46, x47, x48, x49, x50, x51, x52, x53, x54, x55, x56, x57, x58, x59, x60, x61, x62, x63, x64, x65, x66, x67, x68, x69, x70, x71, x72, x73, x74, x75, x76, x77, x78, x79, x80, x81, x82, x83, x84, x85, x86, x87, x88, x89, x90, x91, x92, x93, x94, x95, x96, x97, x98, x99, x100, x101, x102, x103, x104, x105, x106, x107, x108, x109, x110, x111, x112, x113, x114, x115, x116, x117, x118, x119, x120, x121, x122, x123, x124, x125, x126, x127, x128, x129, x130, x131, x132, x133, x134, x135, x136, x137, x138, x139, x140, x141, x142, x143, x144, x145, x146, x147, x148, x149, x150, x151, x152, x153, x154, x155, x156, x157, x158, x159, x160, x161, x162, x163, x164, x165, x166, x167, x168, x169, x170, x171, x172, x173, x174, x175, x176, x177, x178, x179, x180, x181, x182, x183, x184, x185, x186], []⟩ w1 := by
  conv => arg 2; whnf
  have und := Try.underlying37
  replace hR3 := Lib.hid hR3
  go_upto_region 36 with fail
  have h2 := H.out.row (b := b2) (cs := zC) (t := 37) (by simp)
  have hth := h2.there
  go_wp2_with (refine wpList_store_mid rfl _ _ _ rfl b2 0 zC rfl rfl hth sizTX oneZ ?_)
  have RZ := h2.store (zC) rfl
  have HZ := HR.otherMany (D := b2) (rs := [(b5, txC t, 37)]) (by have := hbs.out; simp; omega) (by have := hbs.out; omega) (zC : Array Value).toList 0 _ (HR.sub H.out (by simp))
  refine bodyPost_ret (v := _) (results_two_row9 rfl _ rfl RZ und rfl sizTX) rfl ?_
  exact hR3.out _ _ rfl HZ.2
set_option maxRecDepth 100000 in
set_option maxHeartbeats 8000000 in
theorem rrN3  (ao : Option Addr) (len c : Nat) (n : Int) (w w1 : World) (b2 b5 : Nat) (hbs : Hid (b2 ≠ b5 ∧ w.heap.size ≤ b2)) (t : TxD) (H : Hid (HR w w1 [(b5, txC t, 37), (b2, zC, 37)])) (R : Ending → World → Prop)
    (hR3 : ∀ e w', e = .returned (.tuple #[.agg zC, .int .i64 3]) → Below w.heap.size w w' → R e w') {x1 x3 x7 x9 x11 x12 x13 x14 x15 x16 x17 x18 x19 x20 x22 x23 x24 x25 x26 x27 x28 x29 x30 x31 x32 x33 x34 x35 x36 x37 x38 x39 x40 x41 x42 x43 x44 x45 x46 x47 x48 x49 x50 x51 x52 x53 x54 x55 x56 x57 x58 x59 x60 x61 x62 x63 x64 x65 x66 x67 x68 x69 x70 x71 x72 x73 x74 x75 x76 x77 x78 x79 x80 x81 x82 x83 x84 x85 x86 x87 x88 x89 x90 x91 x92 x93 x94 x95 x96 x97 x98 x99 x100 x101 x102 x103 x104 x105 x106 x107 x108 x109 x110 x111 x112 x113 x114 x115 x116 x117 x118 x119 x120 x121 x122 x123 x124 x125 x126 x127 x128 x129 x130 x131 x132 x133 x134 x135 x136 x137 x138 x139 x140 x141 x142 x143 x144 x145 x146 x147 x148 x149 x150 x151 x152 x153 x154 x155 x156 x157 x158 x159 x160 x161 x162 x163 x164 x165 x166 x167 x168 x169 x170 x171 x172 x173 x174 x175 x176 x177 x178 x179 x180 x181 x182 x183 x184 x185 x186 : Value} : Code.wp Try.prog (rrB 34) (bodyPost Try.prog Try.f16 R) ⟨#[.slice ao len c, x1, .pointer (some ⟨b2, 0, none⟩), x3, .int .i64 n, .pointer (some ⟨b5, 0, none⟩), .bool true, x7, .bool true, x9, .bool true, x11, x12, x13, x14, x15, x16, x17, x18, x19, x20, .bool false, x22, x23, x24, x25, x26, x27, x28, x29, x30, x31, x32, x33, x34, x35, x36, x37, x38, x39, x40, x41, x42, x43, x44, x45, x46, x47, x48, x49, x50, x51, x52, x53, x54, x55, x56, x57, x58, x59, x60, x61, x62, x63, x64, x65, x66, x67, x68, x69, x70, x71, x72, x73, x74, x75, x76, x77, x78, x79, x80, x81, x82, x83, x84, x85, x86, x87, x88, x89, x90, x91, x92, x93, x94, x95, x96, x97, x98, x99, x100, x101, x102, x103, x104, x105, x106, x107, x108, x109, x110, x111, x112, x113, x114, x115, x116, x117, x118, x119, x120, x121, x122, x123, x124, x125, x126, x127, x128, x129, x130, x131, x132, x133, x134, x135, x136, x137, x138, x139, x140, x141, x142, x143, x144, x145, x146, x147, x148, x149, x150, x151, x152, x153, x154, x155, x156, x157, x158, x159, x160, x161, x162, x163, x164, x165, x166, x167, x168, x169, x170, x171, x172, x173, x174, x175, x176, x177, x178, x179, x180, x181, x182, x183, x184, x185, x186], []⟩ w1 := by
  conv => arg 2; whnf
  have und := Try.underlying37
  replace hR3 := Lib.hid hR3
  go_upto_region 36 with fail
  have h2 := H.out.row (b := b2) (cs := zC) (t := 37) (by simp)
  have hth := h2.there
  go_wp2_with (refine wpList_store_mid rfl _ _ _ rfl b2 0 zC rfl rfl hth sizTX oneZ ?_)
  have RZ := h2.store (zC) rfl
  have HZ := HR.otherMany (D := b2) (rs := [(b5, txC t, 37)]) (by have := hbs.out; simp; omega) (by have := hbs.out; omega) (zC : Array Value).toList 0 _ (HR.sub H.out (by simp))
  refine bodyPost_ret (v := _) (results_two_row9 rfl _ rfl RZ und rfl sizTX) rfl ?_
  exact hR3.out _ _ rfl HZ.2
set_option maxRecDepth 100000 in
set_option maxHeartbeats 8000000 in
theorem rrN (fb fa fc fg : Bool) (ao : Option Addr) (len c : Nat) (n : Int) (w w1 : World) (b2 b5 : Nat) (hbs : Hid (b2 ≠ b5 ∧ w.heap.size ≤ b2)) (t : TxD) (H : Hid (HR w w1 [(b5, txC t, 37), (b2, zC, 37)])) (R : Ending → World → Prop)
    (hk : (fb && (fa && (fc && fg))) = false) (hR3 : ∀ e w', e = .returned (.tuple #[.agg zC, .int .i64 3]) → Below w.heap.size w w' → R e w') {x1 x3 x7 x9 x11 x12 x13 x14 x15 x16 x17 x18 x19 x20 x22 x23 x24 x25 x26 x27 x28 x29 x30 x31 x32 x33 x34 x35 x36 x37 x38 x39 x40 x41 x42 x43 x44 x45 x46 x47 x48 x49 x50 x51 x52 x53 x54 x55 x56 x57 x58 x59 x60 x61 x62 x63 x64 x65 x66 x67 x68 x69 x70 x71 x72 x73 x74 x75 x76 x77 x78 x79 x80 x81 x82 x83 x84 x85 x86 x87 x88 x89 x90 x91 x92 x93 x94 x95 x96 x97 x98 x99 x100 x101 x102 x103 x104 x105 x106 x107 x108 x109 x110 x111 x112 x113 x114 x115 x116 x117 x118 x119 x120 x121 x122 x123 x124 x125 x126 x127 x128 x129 x130 x131 x132 x133 x134 x135 x136 x137 x138 x139 x140 x141 x142 x143 x144 x145 x146 x147 x148 x149 x150 x151 x152 x153 x154 x155 x156 x157 x158 x159 x160 x161 x162 x163 x164 x165 x166 x167 x168 x169 x170 x171 x172 x173 x174 x175 x176 x177 x178 x179 x180 x181 x182 x183 x184 x185 x186 : Value} : Code.wp Try.prog (rrB 34) (bodyPost Try.prog Try.f16 R) ⟨#[.slice ao len c, x1, .pointer (some ⟨b2, 0, none⟩), x3, .int .i64 n, .pointer (some ⟨b5, 0, none⟩), .bool fb, x7, .bool fa, x9, .bool fc, x11, x12, x13, x14, x15, x16, x17, x18, x19, x20, .bool fg, x22, x23, x24, x25, x26, x27, x28, x29, x30, x31, x32, x33, x34, x35, x36, x37, x38, x39, x40, x41, x42, x43, x44, x45, x46, x47, x48, x49, x50, x51, x52, x53, x54, x55, x56, x57, x58, x59, x60, x61, x62, x63, x64, x65, x66, x67, x68, x69, x70, x71, x72, x73, x74, x75, x76, x77, x78, x79, x80, x81, x82, x83, x84, x85, x86, x87, x88, x89, x90, x91, x92, x93, x94, x95, x96, x97, x98, x99, x100, x101, x102, x103, x104, x105, x106, x107, x108, x109, x110, x111, x112, x113, x114, x115, x116, x117, x118, x119, x120, x121, x122, x123, x124, x125, x126, x127, x128, x129, x130, x131, x132, x133, x134, x135, x136, x137, x138, x139, x140, x141, x142, x143, x144, x145, x146, x147, x148, x149, x150, x151, x152, x153, x154, x155, x156, x157, x158, x159, x160, x161, x162, x163, x164, x165, x166, x167, x168, x169, x170, x171, x172, x173, x174, x175, x176, x177, x178, x179, x180, x181, x182, x183, x184, x185, x186], []⟩ w1 := by
  cases fb with
  | false => exact rrN0 fa fc fg ao len c n w w1 b2 b5 hbs t H R hR3
  | true => cases fa with
    | false => exact rrN1 fc fg ao len c n w w1 b2 b5 hbs t H R hR3
    | true => cases fc with
      | false => exact rrN2 fg ao len c n w w1 b2 b5 hbs t H R hR3
      | true => cases fg with
        | false => exact rrN3 ao len c n w w1 b2 b5 hbs t H R hR3
        | true => cases hk
set_option maxRecDepth 100000 in
set_option maxHeartbeats 8000000 in
theorem rrY  (ao : Option Addr) (len c : Nat) (n : Int) (w w1 : World) (b2 b5 : Nat) (hbs : Hid (b2 ≠ b5 ∧ w.heap.size ≤ b2)) (t : TxD) (H : Hid (HR w w1 [(b5, txC t, 37), (b2, zC, 37)])) (R : Ending → World → Prop)
    (hk : TxOk t) (hR3 : mayB t = false → ∀ e w', e = .returned (.tuple #[.agg zC, .int .i64 3]) → Below w.heap.size w w' → R e w') (hR4 : mayB t = true → n < (len : Int) → ∀ e w', e = .returned (.tuple #[.agg zC, .int .i64 4]) → Below w.heap.size w w' → R e w')
    (hR0 : mayB t = true → ¬ n < (len : Int) → ∀ e w', e = .returned (.tuple #[.agg (txC t), .int .i64 0]) → Below w.heap.size w w' → R e w') {x1 x3 x7 x9 x11 x12 x13 x14 x15 x16 x17 x18 x19 x20 x22 x23 x24 x25 x26 x27 x28 x29 x30 x31 x32 x33 x34 x35 x36 x37 x38 x39 x40 x41 x42 x43 x44 x45 x46 x47 x48 x49 x50 x51 x52 x53 x54 x55 x56 x57 x58 x59 x60 x61 x62 x63 x64 x65 x66 x67 x68 x69 x70 x71 x72 x73 x74 x75 x76 x77 x78 x79 x80 x81 x82 x83 x84 x85 x86 x87 x88 x89 x90 x91 x92 x93 x94 x95 x96 x97 x98 x99 x100 x101 x102 x103 x104 x105 x106 x107 x108 x109 x110 x111 x112 x113 x114 x115 x116 x117 x118 x119 x120 x121 x122 x123 x124 x125 x126 x127 x128 x129 x130 x131 x132 x133 x134 x135 x136 x137 x138 x139 x140 x141 x142 x143 x144 x145 x146 x147 x148 x149 x150 x151 x152 x153 x154 x155 x156 x157 x158 x159 x160 x161 x162 x163 x164 x165 x166 x167 x168 x169 x170 x171 x172 x173 x174 x175 x176 x177 x178 x179 x180 x181 x182 x183 x184 x185 x186 : Value} : Code.wp Try.prog (rrB 34) (bodyPost Try.prog Try.f16 R) ⟨#[.slice ao len c, x1, .pointer (some ⟨b2, 0, none⟩), x3, .int .i64 n, .pointer (some ⟨b5, 0, none⟩), .bool true, x7, .bool true, x9, .bool true, x11, x12, x13, x14, x15, x16, x17, x18, x19, x20, .bool true, x22, x23, x24, x25, x26, x27, x28, x29, x30, x31, x32, x33, x34, x35, x36, x37, x38, x39, x40, x41, x42, x43, x44, x45, x46, x47, x48, x49, x50, x51, x52, x53, x54, x55, x56, x57, x58, x59, x60, x61, x62, x63, x64, x65, x66, x67, x68, x69, x70, x71, x72, x73, x74, x75, x76, x77, x78, x79, x80, x81, x82, x83, x84, x85, x86, x87, x88, x89, x90, x91, x92, x93, x94, x95, x96, x97, x98, x99, x100, x101, x102, x103, x104, x105, x106, x107, x108, x109, x110, x111, x112, x113, x114, x115, x116, x117, x118, x119, x120, x121, x122, x123, x124, x125, x126, x127, x128, x129, x130, x131, x132, x133, x134, x135, x136, x137, x138, x139, x140, x141, x142, x143, x144, x145, x146, x147, x148, x149, x150, x151, x152, x153, x154, x155, x156, x157, x158, x159, x160, x161, x162, x163, x164, x165, x166, x167, x168, x169, x170, x171, x172, x173, x174, x175, x176, x177, x178, x179, x180, x181, x182, x183, x184, x185, x186], []⟩ w1 := by
  conv => arg 2; whnf
  have und := Try.underlying37
  replace hR3 := Lib.hid hR3
  replace hR4 := Lib.hid hR4
  replace hR0 := Lib.hid hR0
  have cM := Lib.hid (r19May t hk w1)
  obtain ⟨mb, hmb⟩ : ∃ z, mayB t = z := ⟨_, rfl⟩
  rw [hmb] at cM
  replace hmb := Lib.hid hmb
  clear hk
  have hr5 := H.out.row (b := b5) (cs := txC t) (t := 37) (by simp)
  go_wp2_with (refine wpList_load_on rfl _ _ rfl b5 rfl 37 (txC t) (0, 0) _ hr5 und rfl sizTX ?_)
  refine (cM.out).mono ?_
  rintro e wc ⟨rfl, hb⟩
  have HC := Lib.hid (H.out.next hb)
  clear hr5 hb H
  cases mb with
  | false =>
    go_upto_region 36 with fail
    have h2 := HC.out.row (b := b2) (cs := zC) (t := 37) (by simp)
    have hth := h2.there
    go_wp2_with (refine wpList_store_mid rfl _ _ _ rfl b2 0 zC rfl rfl hth sizTX oneZ ?_)
    have RZ := h2.store (zC) rfl
    have HZ := HR.otherMany (D := b2) (rs := [(b5, txC t, 37)]) (by have := hbs.out; simp; omega) (by have := hbs.out; omega) (zC : Array Value).toList 0 _ (HR.sub HC.out (by simp))
    refine bodyPost_ret (v := _) (results_two_row9 rfl _ rfl RZ und rfl sizTX) rfl ?_
    exact (hR3.out hmb.out) _ _ rfl HZ.2
  | true =>
    by_cases hln : n < (len : Int)
    · go_upto_region 38 with fail
      have h2 := HC.out.row (b := b2) (cs := zC) (t := 37) (by simp)
      have hth := h2.there
      go_wp2_with (refine wpList_store_mid rfl _ _ _ rfl b2 0 zC rfl rfl hth sizTX oneZ ?_)
      have RZ := h2.store (zC) rfl
      have HZ := HR.otherMany (D := b2) (rs := [(b5, txC t, 37)]) (by have := hbs.out; simp; omega) (by have := hbs.out; omega) (zC : Array Value).toList 0 _ (HR.sub HC.out (by simp))
      refine bodyPost_ret (v := _) (results_two_row9 rfl _ rfl RZ und rfl sizTX) rfl ?_
      exact (hR4.out hmb.out hln) _ _ rfl HZ.2
    · go_upto_region 39 with fail
      have h2 := HC.out.row (b := b2) (cs := zC) (t := 37) (by simp)
      have hth := h2.there
      have h1c := oneTx t
      have hr5 := HC.out.row (b := b5) (cs := txC t) (t := 37) (by simp)
      go_wp2_with (first | (refine wpList_load_row rfl _ _ rfl b5 rfl 37 (txC t) (0, 0) _ hr5 und rfl sizTX ?_) | (refine wpList_store_mid rfl _ _ _ rfl b2 0 (txC t) rfl rfl hth sizTX h1c ?_))
      have RZ := h2.store (txC t) rfl
      have HZ := HR.otherMany (D := b2) (rs := [(b5, txC t, 37)]) (by have := hbs.out; simp; omega) (by have := hbs.out; omega) (txC t : Array Value).toList 0 _ (HR.sub HC.out (by simp))
      refine bodyPost_ret (v := _) (results_two_row9 rfl _ rfl RZ und rfl sizTX) rfl ?_
      exact (hR0.out hmb.out hln) _ _ rfl HZ.2

end Go.Proofs.Ytkfimfjjmdjbdaa
/- Walks: the statements of layer 19: a transaction of nothing. -/
namespace Go.Proofs.Ytkfimfjjmdjbdaa
open Go.RowKit
set_option linter.unusedVariables false

/-- The transaction of nothing: its fields at three steps. -/
abbrev zD : TxD := { root := 0, inn := 0, out := 0, fx := 0, fy := 0, tx := 0, ty := 0, seq := 0, e0 := 0, e1 := 0, m0 := 0, m1 := 0, n0x := 0, n0y := 0, n1x := 0, n1y := 0, a0 := 0, a1 := 0, xa := 0, ya := 0, xb := 0, yb := 0, xc := 0, yc := 0, gx := 0, gy := 0, gz := 0, ia := false, ib := false, ic := false, s0 := none, l0 := 0, c0 := 0, s1 := none, l1 := 0, c1 := 0 }
abbrev p0D : TxD := { zD with fy := 1, ty := 1 }
abbrev p1D (g : Nat) : TxD := { p0D with n0x := 223588670687113535, n0y := 82055451961885530, s0 := some ⟨g, 0, none⟩, l0 := 32, c0 := 32 }
abbrev p2D (g : Nat) : TxD := { p1D g with n1x := 223588670687113535, n1y := 82055451961885530, s1 := some ⟨g, 0, none⟩, l1 := 32, c1 := 32 }
abbrev plD (g : Nat) : TxD := bareD (p2D g)
def z32 : List Nat := List.replicate 32 0
theorem mk32 (W : World) : (Instr.makeSlice 26 (.int .i64 32) (.int .i64 32)).run Try.prog W = .ok (.slice (some ⟨W.heap.size, 0, none⟩) 32 32) (W.alloc (.cells (u8s z32) 5)) := make_zeros 32 (by decide) W
set_option maxRecDepth 100000 in
set_option maxHeartbeats 4000000 in
theorem lPlain (w : World) : Calls Try.prog 19 #[] w fun e w' => ∃ g, e = .returned (.agg (txC (plD g))) ∧ w.heap.size ≤ g ∧ Row w' g (u8s z32) 5 ∧ Below w.heap.size w w' := by
  go_enter Try.func19, Try.ntmps19
  have undE := Try.underlying24
  have undT := Try.underlying37
  go_upto_region 1 with fail
  have H0 := Lib.hid ((HR.refl w).new zC 37)
  generalize w.alloc (.cells zC 37) = w1 at H0 ⊢
  obtain ⟨b0, hb0⟩ : ∃ z, w.heap.size = z := ⟨_, rfl⟩
  rw [hb0] at H0 ⊢
  have hbs : Hid (w.heap.size = b0) := Lib.hid hb0
  clear hb0
  have hth := Row.newThere w1 #[.int .u64 0, .int .u64 0] 24
  go_upto_region 2 with (refine wpList_store_mid rfl _ _ _ rfl w1.heap.size 0 #[.int .u64 223588670687113535, .int .u64 82055451961885530] rfl rfl hth sizED (one2 _ _) ?_)
  have H1 := Lib.hid (H0.out.fill #[.int .u64 0, .int .u64 0] #[.int .u64 223588670687113535, .int .u64 82055451961885530] 24 rfl)
  clear hth
  have hl1 : Hid (b0 < w1.heap.size ∧ w.heap.size ≤ w1.heap.size) := Lib.hid ⟨H0.out.lt (b := b0) (cs := zC) (t := 37) (by simp), H0.out.2.size⟩
  generalize (w1.alloc (.cells #[.int .u64 0, .int .u64 0] 24)).setCells w1.heap.size 0 (#[.int .u64 223588670687113535, .int .u64 82055451961885530] : Array Value).toList = w2 at H1 ⊢
  generalize w1.heap.size = b3 at H1 hl1 ⊢
  clear H0
  have hth := Row.newThere w2 zC 37
  go_upto_region 3 with (refine wpList_store_mid rfl _ _ _ rfl w2.heap.size 0 (txC p0D) rfl rfl hth sizTX (oneTx _) ?_)
  have H2 := Lib.hid (H1.out.fill zC (txC p0D) 37 rfl)
  clear hth
  have hl2 : Hid (b0 < w2.heap.size ∧ b3 < w2.heap.size ∧ w.heap.size ≤ w2.heap.size) := Lib.hid ⟨H1.out.lt (b := b0) (cs := zC) (t := 37) (by simp), H1.out.lt (b := b3) (cs := #[.int .u64 223588670687113535, .int .u64 82055451961885530]) (t := 24) (by simp), H1.out.2.size⟩
  generalize (w2.alloc (.cells zC 37)).setCells w2.heap.size 0 (txC p0D).toList = w3 at H2 ⊢
  generalize w2.heap.size = b2 at H2 hl2 ⊢
  clear H1
  refine wp_region_noPanic ?_
  refine wp_region_held_drew (S := fun wq => wq.cell? ⟨b3, 0, none⟩ = some (.int .u64 223588670687113535) ∧ wq.cell? ⟨b3, 1, none⟩ = some (.int .u64 82055451961885530) ∧ HR w wq [(b3, #[.int .u64 223588670687113535, .int .u64 82055451961885530], 24), (b0, zC, 37)]) (by kernel_rfl) ?_ (fun hHeld => ?_)
  · have hq0 := HR.drew (HR.sub (qs := [(b3, #[.int .u64 223588670687113535, .int .u64 82055451961885530], 24), (b0, zC, 37)]) H2.out (by simp))
    exact ⟨HR.cell hq0 (b := b3) (cs := #[.int .u64 223588670687113535, .int .u64 82055451961885530]) (t := 24) (by simp) 0 rfl, HR.cell hq0 (b := b3) (cs := #[.int .u64 223588670687113535, .int .u64 82055451961885530]) (t := 24) (by simp) 1 rfl, hq0⟩
  refine tk 0 hHeld ?_; refine tk 3 hHeld ?_
  have hmk := mk32
  refine stepH 1 (by kernel_rfl) rfl (by rfl) (fun K hK => ?_)
  go_simp
  refine hK.out _ _ ?_ (fun hHeld => ?_)
  · have hq1 := HR.alloc hHeld.2.2 (.cells (u8s z32) 5)
    exact ⟨HR.cell hq1 (b := b3) (cs := #[.int .u64 223588670687113535, .int .u64 82055451961885530]) (t := 24) (by simp) 0 rfl, HR.cell hq1 (b := b3) (cs := #[.int .u64 223588670687113535, .int .u64 82055451961885530]) (t := 24) (by simp) 1 rfl, hq1⟩
  clear hK K hmk
  try simp only [Act.put, List.setIfInBounds_toArray, List.set_cons_zero, List.set_cons_succ]
  refine tk 2 hHeld ?_; refine tk 4 hHeld ?_
  have HA := (H2.out.new (u8s z32) 5).drew
  have hlB : Hid (b0 < w3.heap.size ∧ b3 < w3.heap.size ∧ b2 < w3.heap.size ∧ w.heap.size ≤ w3.heap.size) := Lib.hid ⟨H2.out.lt (b := b0) (cs := zC) (t := 37) (by simp), H2.out.lt (b := b3) (cs := #[.int .u64 223588670687113535, .int .u64 82055451961885530]) (t := 24) (by simp), H2.out.lt (b := b2) (cs := txC p0D) (t := 37) (by simp), H2.out.2.size⟩
  have hth := (HA.row (b := b2) (cs := txC p0D) (t := 37) (by simp)).thereMid 12 3 (by simp)
  refine stepH 5 (by kernel_rfl) rfl (by rfl) (fun K hK => ?_)
  refine wp_store_mid 28 _ _ rfl b2 12 #[.int .u64 223588670687113535, .int .u64 82055451961885530, .slice (some ⟨w3.heap.size, 0, none⟩) 32 32] rfl rfl hth sizSE (one3s _ _ _ _ _) ?_
  refine hK.out _ _ ?_ (fun hHeld => ?_)
  · have hq1 := HR.otherMany (D := b2) (by have := hl2.out; simp; omega) (by have := hl2.out; omega) (#[.int .u64 223588670687113535, .int .u64 82055451961885530, .slice (some ⟨w3.heap.size, 0, none⟩) 32 32] : Array Value).toList 12 _ hHeld.2.2
    exact ⟨HR.cell hq1 (b := b3) (cs := #[.int .u64 223588670687113535, .int .u64 82055451961885530]) (t := 24) (by simp) 0 rfl, HR.cell hq1 (b := b3) (cs := #[.int .u64 223588670687113535, .int .u64 82055451961885530]) (t := 24) (by simp) 1 rfl, hq1⟩
  clear hK K
  try simp only [Act.put, List.setIfInBounds_toArray, List.set_cons_zero, List.set_cons_succ]
  refine wpAnyH_done (by kernel_rfl) (NoPanic.normal ?_) _
  have H3 : Hid (HR w ((w3.alloc (.cells (u8s z32) 5)).drew.setCells b2 12 (#[.int .u64 223588670687113535, .int .u64 82055451961885530, .slice (some ⟨w3.heap.size, 0, none⟩) 32 32] : Array Value).toList) [(b2, txC (p1D w3.heap.size), 37), (w3.heap.size, u8s z32, 5), (b0, zC, 37)]) :=
    Lib.hid (HR.putMany (HR.sub HA (qs := [(b2, txC p0D, 37), (w3.heap.size, u8s z32, 5), (b0, zC, 37)]) (by simp)) (by have := hlB.out; have := hl2.out; simp; omega) (by have := hl2.out; omega) _ 12 (by simp) rfl)
  clear hHeld hth HA H2
  generalize (w3.alloc (.cells (u8s z32) 5)).drew.setCells b2 12 (#[.int .u64 223588670687113535, .int .u64 82055451961885530, .slice (some ⟨w3.heap.size, 0, none⟩) 32 32] : Array Value).toList = w4 at H3 ⊢
  generalize w3.heap.size = g at H3 hlB ⊢
  have k0 := H3.out.cell (b := b2) (cs := txC (p1D g)) (t := 37) (by simp) 12 rfl
  have k1 := H3.out.cell (b := b2) (cs := txC (p1D g)) (t := 37) (by simp) 13 rfl
  have k2 := H3.out.cell (b := b2) (cs := txC (p1D g)) (t := 37) (by simp) 14 rfl
  have hth := (H3.out.row (b := b2) (cs := txC (p1D g)) (t := 37) (by simp)).thereMid 15 3 (by simp)
  go_upto_region 5 with (refine wpList_store_mid rfl _ _ _ rfl b2 15 #[.int .u64 223588670687113535, .int .u64 82055451961885530, .slice (some ⟨g, 0, none⟩) 32 32] rfl rfl hth sizSE (one3s _ _ _ _ _) ?_)
  have H4 : Hid (HR w (w4.setCells b2 15 (#[.int .u64 223588670687113535, .int .u64 82055451961885530, .slice (some ⟨g, 0, none⟩) 32 32] : Array Value).toList) [(b2, txC (p2D g), 37), (g, u8s z32, 5), (b0, zC, 37)]) :=
    Lib.hid (HR.putMany H3.out (by have := hlB.out; have := hl2.out; simp; omega) (by have := hl2.out; omega) _ 15 (by simp) rfl)
  clear k0 k1 k2 hth H3
  generalize w4.setCells b2 15 (#[.int .u64 223588670687113535, .int .u64 82055451961885530, .slice (some ⟨g, 0, none⟩) 32 32] : Array Value).toList = w5 at H4 ⊢
  have hr := H4.out.row (b := b2) (cs := txC (p2D g)) (t := 37) (by simp)
  go_wp2_with (refine wpList_load_row rfl _ _ rfl b2 rfl 37 (txC (p2D g)) (0, 0) _ hr undT rfl sizTX ?_)
  refine (lBare (p2D g) _).mono ?_
  rintro e w6 ⟨rfl, hb⟩
  have H5 := Lib.hid (H4.out.next hb)
  clear hb H4 hr
  have h0 := H5.out.row (b := b0) (cs := zC) (t := 37) (by simp)
  have hth := h0.there
  go_wp2_with (refine wpList_store_mid rfl _ _ _ rfl b0 0 (txC (plD g)) rfl rfl hth sizTX (oneTx _) ?_)
  have RZ := h0.store (txC (plD g)) rfl
  have HZ := HR.putMany (cs := zC) (t := 37) (rs := [(g, u8s z32, 5)]) (HR.sub (qs := [(b0, zC, 37), (g, u8s z32, 5)]) H5.out (by simp)) (by have := hlB.out; simp; omega) (by have := hbs.out; omega) (txC (plD g)).toList 0 (by simp) rfl
  exact bodyPost_ret (v := _) (results_cell_row rfl _ _ _ _ _ _ _ rfl RZ undT rfl sizTX) rfl ⟨g, rfl, by have := hlB.out; omega, HZ.row (by simp), HZ.2⟩

end Go.Proofs.Ytkfimfjjmdjbdaa
/- Walks: the statements of layer 19: their head. -/
namespace Go.Proofs.Ytkfimfjjmdjbdaa
open Go.RowKit
set_option linter.unusedVariables false


theorem in_zero : inN (0, 1) = true := by
  have h1 : Obol.isN (0, 1) = true := by rw [Obol.isN_eq]; decide +kernel
  unfold inN
  rw [h1, Obol.smulN_eq]
  have e : Obol.Pnt.of (0, 1) = Obol.Pnt.zero := by rw [show ((0, 1) : Nat × Nat) = Obol.Pnt.zero.n from Obol.zero_n.symm, Obol.of_n]
  rw [e, Obol.Pnt.smul_zero, Obol.zero_n]
  rfl
theorem in_gen : inN (223588670687113535, 82055451961885530) = true := by
  have e1 : (223588670687113535, 82055451961885530) = Obol.Pnt.n Obol.G := Obol.G_n.symm
  have h1 : Obol.isN (223588670687113535, 82055451961885530) = true := by rw [Obol.isN_eq]; decide +kernel
  unfold inN
  rw [h1, show (72057593894066549 : Nat) = Obol.S by decide +kernel, e1, Obol.smulN_eq, Obol.of_n, Obol.G_S, Obol.zero_n]
  rfl
theorem may_pl (g : Nat) : mayB (plD g) = true := by
  have hp : inPt true 0 0 = true := by unfold inPt isPt infC; rfl
  have hz : inN ((0 : Int).toNat, (1 : Int).toNat) = true := in_zero
  have hg : inN ((223588670687113535 : Int).toNat, (82055451961885530 : Int).toNat) = true := in_gen
  have h1 : c1 (plD g) = true := (by decide +kernel : c1 (plD 0) = true)
  have h2 : c2 (plD g) = true := by
    show (inN ((0 : Int).toNat, (1 : Int).toNat) && (inN ((0 : Int).toNat, (1 : Int).toNat) && _)) = true
    rw [hz]; rfl
  have h3 : c3 223588670687113535 82055451961885530 32 = true := by unfold c3; rw [hg]; decide
  have h4 : c4 (plD g) = true := by
    show (inPt true 0 0 && (inPt true 0 0 && (inPt true 0 0 && (inN ((0 : Int).toNat, (1 : Int).toNat) && _)))) = true
    rw [hp, hz]; rfl
  unfold mayB
  show (c1 (plD g) && (c2 (plD g) && (c3 223588670687113535 82055451961885530 32 && (c3 223588670687113535 82055451961885530 32 && (c4 (plD g) && !c5 (plD g)))))) = true
  rw [h1, h2, h3, h4]
  rfl
theorem ok_pl (g : Nat) : TxOk (plD g) := by constructor <;> (simp only []; decide)
theorem pl_len (g : Nat) : (wriL (plD g) z32 z32).length = 195 := by
  unfold wriL bodL prL
  simp only [List.length_append, be8_l, hd4_len (t := plD g) (L0 := z32) (L1 := z32) rfl rfl, ptL_len]
  rfl
theorem bods_pl {g : Nat} {w : World} {base : Nat} (h : Row w g (u8s z32) 5) : Bods (plD g) z32 z32 w.heap.size w :=
  have s : SlI w.heap.size w (some ⟨g, 0, none⟩) 32 z32 := ⟨Nat.le_refl _, by decide, (fun h => by cases h), fun _ => ⟨g, 0, rfl, h.lt, h.bl⟩⟩
  ⟨rfl, rfl, s, s⟩
/-- Nothing is no transaction. -/
theorem rdc_nil {t : TxD} {M0 M1 : List Nat} {z : Obol.Rs} (h : RdC [] t M0 M1 z) : z.1 = true := by
  cases hz : z.1 with
  | true => rfl
  | false =>
    have := rdc_read h (fun i => by simp) hz
    have h2 := congrArg List.length this
    rw [wriL_flat] at h2
    simp only [List.length_append, be8_l, List.length_nil] at h2
    omega
/-- A transaction that may be, of 195 bytes. -/
theorem lPlainI (w : World) : Calls Try.prog 19 #[] w fun e w' => ∃ u : TxD, e = .returned (.agg (txC u)) ∧ TxOk u ∧ mayB u = true ∧ Bods u z32 z32 w'.heap.size w' ∧ (wriL u z32 z32).length = 195 ∧ Below w.heap.size w w' := by
  refine (lPlain w).mono ?_
  rintro e w1 ⟨g, he, _, hR, hb⟩
  exact ⟨plD g, he, ok_pl g, may_pl g, bods_pl (base := 0) hR, pl_len g, hb⟩
set_option maxRecDepth 100000 in
set_option maxHeartbeats 4000000 in
theorem up19 (w : World) : Calls Try.prog 7 #[] w fun e w' => e = .returned (.bool true) ∧ Below w.heap.size w w' := by
  have undT := Try.underlying37
  go_enter Try.func7, Try.ntmps7
  go_wp2_with fail
  refine (lPlainI _).mono ?_
  rintro e w1 ⟨u, rfl, hk, hm, hB, hn, hb⟩
  have H1 := Lib.hid ((HR.refl w).next hb)
  have cW := tWrite u z32 z32 hk hm w1 hB
  clear hb hB hk hm
  go_wp2_with fail
  refine cW.mono ?_
  rintro e w2 ⟨v, rfl, hO, hb⟩
  have H2 := Lib.hid (H1.out.next hb)
  obtain ⟨a, c, rfl⟩ := own_any9 hO
  rw [hn]
  clear hb H1 cW hO hn
  go_wp2_with fail
  refine (tRead none 0 0 [] rfl (fun i => by simp) w2 ⟨Nat.le_refl _, by decide, fun _ => ⟨rfl, rfl⟩, fun h => by simp at h⟩).mono ?_
  rintro e w3 ⟨t, M0, M1, z, b5, br, g0, e0, g1, e1, z0, z1, hC, _, hb, _, _, _, _, _, _, _, _, rfl⟩
  have hX : rdRes t z = .tuple #[.agg zC, errV 3] := by unfold rdRes; rw [if_pos (.inl (rdc_nil hC))]
  rw [hX]
  have H3 := Lib.hid (H2.out.next hb)
  clear hX hb hC H2
  obtain ⟨Z, hZ⟩ : ∃ Z : Array Value, zC = Z := ⟨_, rfl⟩
  have hZs : Hid (Z.size = zC.size) := Lib.hid (by rw [hZ])
  have hZ1 : Z.all (·.oneCell') = true := by rw [← hZ]; exact oneZ
  have hZi : (Try.prog.info? 37).map (·.size) = some Z.size := by rw [← hZ]; exact sizTX
  have hth : (w3.alloc (.cells zC 37)).there w3.heap.size 0 Z.size := by rw [← hZ]; exact Row.newThere w3 zC 37
  rw [hZ]
  clear hZ
  have hE := fun W => eq19 W 3 3
  have hN := fun W => nilN19 W
  go_upto_region 3 with (refine wpList_store_mid rfl _ _ _ rfl w3.heap.size 0 Z rfl rfl hth hZi hZ1 ?_)
  have H4 := Lib.hid (H3.out.fill zC Z 37 hZs.out)
  clear hth H3 hZ1 hZi hZs
  generalize (w3.alloc (.cells zC 37)).setCells w3.heap.size 0 Z.toList = w4 at H4 ⊢
  generalize w3.heap.size = b4 at H4 ⊢
  go_wp2_with fail
  refine (lPlainI _).mono ?_
  rintro e w5 ⟨u', rfl, hk, hm, _, _, hb⟩
  have H5 := Lib.hid (H4.out.next hb)
  have cK := tCheck u' hk w5
  rw [hm] at cK
  clear hb hk hm H4
  go_wp2_with fail
  refine cK.mono ?_
  rintro e w6 ⟨rfl, hb⟩
  have H6 := Lib.hid (H5.out.next hb)
  clear hb H5 cK
  go_wp2_with fail
  go_ret
  exact ⟨by simp, H6.out.2⟩

end Go.Proofs.Ytkfimfjjmdjbdaa
/- Walks: the reference of layer 19: its reader's end: the signature, what is told. -/
namespace Go.Proofs.Ytkfimfjjmdjbdaa
open Go.RowKit
set_option linter.unusedVariables false
set_option linter.unusedSimpArgs false

abbrev gD (t : TxD) (gx gy gz : Int) : TxD := { t with gx := gx, gy := gy, gz := gz }
set_option maxRecDepth 100000 in
set_option maxHeartbeats 8000000 in
theorem rrEnd (fb fa fc : Bool) (b o c len : Nat) (L : List Nat) (hlen : Hid (L.length = len)) (hc : len ≤ c) (hc2 : c ≤ 9223372036854775807) (hn2 : len ≤ 1000000) (hbv : Hid (∀ i, L.getD i 0 < 256)) (n : Int) (pq : Nat) (hpqf : pq + 16 ≤ len) (hpqs : pq ≤ 300)
    (w w1 : World) (hB : Hid (∀ W, Below w.heap.size w W → BL W b o L)) (b2 b5 : Nat) (hbs : Hid (b2 ≠ b5 ∧ w.heap.size ≤ b2)) (hd5 : Hid (w.heap.size ≤ b5)) (t : TxD) (H : Hid (HR w w1 [(b5, #[.int .u64 t.root, .int .u64 t.inn, .int .u64 t.out, .int .u64 t.fx, .int .u64 t.fy, .int .u64 t.tx, .int .u64 t.ty, .int .u64 t.seq, .int .u64 t.e0, .int .u64 t.e1, .int .u64 t.m0, .int .u64 t.m1, .int .u64 t.n0x, .int .u64 t.n0y, .slice t.s0 t.l0 t.c0, .int .u64 t.n1x, .int .u64 t.n1y, .slice t.s1 t.l1 t.c1, .int .u64 t.a0, .int .u64 t.a1, .bool t.ia, .int .u64 t.xa, .int .u64 t.ya, .bool t.ib, .int .u64 t.xb, .int .u64 t.yb, .bool t.ic, .int .u64 t.xc, .int .u64 t.yc, .int .u64 0, .int .u64 0, .int .u64 0], 37), (b2, zC, 37)])) (R : Ending → World → Prop)
    (hN : ∀ gx gy fg, FdO (numAt L pq) gx gy fg → (fb && (fa && (fc && fg))) = false → ∀ e w', e = .returned (.tuple #[.agg zC, .int .i64 3]) → Below w.heap.size w w' → R e w')
    (hY : ∀ gx gy, FdO (numAt L pq) gx gy true → (fb && (fa && fc)) = true → TxOk (gD t gx gy ((numAt L (pq + 8) : Nat) : Int)) ∧
      (mayB (gD t gx gy ((numAt L (pq + 8) : Nat) : Int)) = false → ∀ e w', e = .returned (.tuple #[.agg zC, .int .i64 3]) → Below w.heap.size w w' → R e w') ∧
      (mayB (gD t gx gy ((numAt L (pq + 8) : Nat) : Int)) = true → n < (len : Int) → ∀ e w', e = .returned (.tuple #[.agg zC, .int .i64 4]) → Below w.heap.size w w' → R e w') ∧
      (mayB (gD t gx gy ((numAt L (pq + 8) : Nat) : Int)) = true → ¬ n < (len : Int) → ∀ e w', e = .returned (.tuple #[.agg (txC (gD t gx gy ((numAt L (pq + 8) : Nat) : Int))), .int .i64 0]) → Below w.heap.size w w' → R e w'))
    {x1 x3 x7 x9 x11 x12 x13 x15 x16 x17 x18 x19 x20 x21 x22 x23 x24 x25 x26 x27 x28 x29 x30 x31 x32 x33 x34 x35 x36 x37 x38 x39 x40 x41 x42 x43 x44 x45 x46 x47 x48 x49 x50 x51 x52 x53 x54 x55 x56 x57 x58 x59 x60 x61 x62 x63 x64 x65 x66 x67 x68 x69 x70 x71 x72 x73 x74 x75 x76 x77 x78 x79 x80 x81 x82 x83 x84 x85 x86 x87 x88 x89 x90 x91 x92 x93 x94 x95 x96 x97 x98 x99 x100 x101 x102 x103 x104 x105 x106 x107 x108 x109 x110 x111 x112 x113 x114 x115 x116 x117 x118 x119 x120 x121 x122 x123 x124 x125 x126 x127 x128 x129 x130 x131 x132 x133 x134 x135 x136 x137 x138 x139 x140 x141 x142 x143 x144 x145 x146 x147 x148 x149 x150 x151 x152 x153 x154 x155 x156 x157 x158 x159 x160 x161 x162 x163 x164 x165 x166 x167 x168 x169 x170 x171 x172 x173 x174 x175 x176 x177 x178 x179 x180 x181 x182 x183 x184 x185 x186 : Value} : Code.wp Try.prog (rrB 32) (bodyPost Try.prog Try.f16 R) ⟨#[.slice (some ⟨b, o, none⟩) len c, x1, .pointer (some ⟨b2, 0, none⟩), x3, .int .i64 n, .pointer (some ⟨b5, 0, none⟩), .bool fb, x7, .bool fa, x9, .bool fc, x11, x12, x13, .int .i64 (pq : Int), x15, x16, x17, x18, x19, x20, x21, x22, x23, x24, x25, x26, x27, x28, x29, x30, x31, x32, x33, x34, x35, x36, x37, x38, x39, x40, x41, x42, x43, x44, x45, x46, x47, x48, x49, x50, x51, x52, x53, x54, x55, x56, x57, x58, x59, x60, x61, x62, x63, x64, x65, x66, x67, x68, x69, x70, x71, x72, x73, x74, x75, x76, x77, x78, x79, x80, x81, x82, x83, x84, x85, x86, x87, x88, x89, x90, x91, x92, x93, x94, x95, x96, x97, x98, x99, x100, x101, x102, x103, x104, x105, x106, x107, x108, x109, x110, x111, x112, x113, x114, x115, x116, x117, x118, x119, x120, x121, x122, x123, x124, x125, x126, x127, x128, x129, x130, x131, x132, x133, x134, x135, x136, x137, x138, x139, x140, x141, x142, x143, x144, x145, x146, x147, x148, x149, x150, x151, x152, x153, x154, x155, x156, x157, x158, x159, x160, x161, x162, x163, x164, x165, x166, x167, x168, x169, x170, x171, x172, x173, x174, x175, x176, x177, x178, x179, x180, x181, x182, x183, x184, x185, x186], []⟩ w1 := by
  conv => arg 2; whnf
  have undE := Try.underlying24
  replace hN := Lib.hid hN
  have hsq : ∀ W, (Instr.slice 26 (.slice (some ⟨b, o, none⟩) len c) (some (.int .i64 (pq : Int))) (some (.int .i64 ((pq : Int) + 8))) none).run Try.prog W = .ok (.slice (some ⟨b, o + pq, none⟩) 8 (c - pq)) W := fun W => slice_part b o len c pq 8 (by omega) (by omega) W
  obtain ⟨vz, hvz⟩ : ∃ v : Int, ((numAt L (pq + 8) : Nat) : Int) = v := ⟨_, rfl⟩
  have cnz0 : ∀ W, BL W b o L → Calls Try.prog 44 #[.slice (some ⟨b, o, none⟩) len c, .int .i64 ((pq : Int) + 8)] W fun e w' => e = .returned (.int .u64 ((numAt L (pq + 8) : Nat) : Int)) ∧ Below W.heap.size W w' := fun W h => by
    have := r19NumberN b o c L len hlen.out (pq + 8) (by omega) hc hc2 hbv.out W h
    rw [Int.natCast_add] at this
    exact this
  rw [hvz] at cnz0
  have cnz := Lib.hid cnz0
  have cY : Hid (∀ gx gy, FdO (numAt L pq) gx gy true → (fb && (fa && fc)) = true → TxOk (gD t gx gy vz) ∧ (mayB (gD t gx gy vz) = false → ∀ e w', e = .returned (.tuple #[.agg zC, .int .i64 3]) → Below w.heap.size w w' → R e w') ∧
      (mayB (gD t gx gy vz) = true → n < (len : Int) → ∀ e w', e = .returned (.tuple #[.agg zC, .int .i64 4]) → Below w.heap.size w w' → R e w') ∧ (mayB (gD t gx gy vz) = true → ¬ n < (len : Int) → ∀ e w', e = .returned (.tuple #[.agg (txC (gD t gx gy vz)), .int .i64 0]) → Below w.heap.size w w' → R e w')) := Lib.hid (by
    rw [← hvz]
    exact hY)
  have pq0 : (0 : Int) ≤ (pq : Int) := by omega
  have pq1 : (pq : Int) ≤ 300 := by omega
  have wz8 : IntKind.i64.wrap ((pq : Int) + 8) = (pq : Int) + 8 := wrap_small (by omega) (by omega)
  replace hvz := Lib.hid hvz
  have hpl : Hid (pq + 8 ≤ L.length) := Lib.hid (by rw [hlen.out]; omega)
  clear cnz0 hY
  go_wp2_with fail
  refine (r19Found b (o + pq) (c - pq) _ (b8_at hpl.out hbv.out) _ (bl_at (hB.out _ H.out.2) pq 8 hpl.out)).mono ?_
  rintro e w33 ⟨⟨gx, gy, fg, rfl, hf1, hf2⟩, hb⟩
  have fdg : Hid (FdO (numAt L pq) gx gy fg) := Lib.hid ⟨hf1, hf2⟩
  have HA := Lib.hid (H.out.next hb)
  have hth := Row.newThere w33 #[.int .u64 0, .int .u64 0] 24
  clear hf1 hf2 hb H
  go_upto_region 34 with (refine wpList_store_mid rfl _ _ _ rfl w33.heap.size 0 #[.int .u64 gx, .int .u64 gy] rfl rfl hth sizED (one2 _ _) ?_)
  rename_i K34 hK34
  have HG := Lib.hid (HA.out.fill #[.int .u64 0, .int .u64 0] #[.int .u64 gx, .int .u64 gy] 24 rfl)
  have hd20 := Lib.hid (show b5 < w33.heap.size from HA.out.lt (b := b5) (cs := #[.int .u64 t.root, .int .u64 t.inn, .int .u64 t.out, .int .u64 t.fx, .int .u64 t.fy, .int .u64 t.tx, .int .u64 t.ty, .int .u64 t.seq, .int .u64 t.e0, .int .u64 t.e1, .int .u64 t.m0, .int .u64 t.m1, .int .u64 t.n0x, .int .u64 t.n0y, .slice t.s0 t.l0 t.c0, .int .u64 t.n1x, .int .u64 t.n1y, .slice t.s1 t.l1 t.c1, .int .u64 t.a0, .int .u64 t.a1, .bool t.ia, .int .u64 t.xa, .int .u64 t.ya, .bool t.ib, .int .u64 t.xb, .int .u64 t.yb, .bool t.ic, .int .u64 t.xc, .int .u64 t.yc, .int .u64 0, .int .u64 0, .int .u64 0]) (t := 37) (by simp))
  clear hth HA
  generalize (w33.alloc (.cells #[.int .u64 0, .int .u64 0] 24)).setCells w33.heap.size 0 (#[.int .u64 gx, .int .u64 gy] : Array Value).toList = ws20 at HG ⊢
  generalize w33.heap.size = b20 at HG hd20 ⊢
  have HQ := Lib.hid (HR.sub (qs := [(b20, #[.int .u64 gx, .int .u64 gy], 24), (b2, zC, 37)]) HG.out (by simp))
  have HF' := Lib.hid (HR.sub (qs := [(b5, #[.int .u64 t.root, .int .u64 t.inn, .int .u64 t.out, .int .u64 t.fx, .int .u64 t.fy, .int .u64 t.tx, .int .u64 t.ty, .int .u64 t.seq, .int .u64 t.e0, .int .u64 t.e1, .int .u64 t.m0, .int .u64 t.m1, .int .u64 t.n0x, .int .u64 t.n0y, .slice t.s0 t.l0 t.c0, .int .u64 t.n1x, .int .u64 t.n1y, .slice t.s1 t.l1 t.c1, .int .u64 t.a0, .int .u64 t.a1, .bool t.ia, .int .u64 t.xa, .int .u64 t.ya, .bool t.ib, .int .u64 t.xb, .int .u64 t.yb, .bool t.ic, .int .u64 t.xc, .int .u64 t.yc, .int .u64 0, .int .u64 0, .int .u64 0], 37), (b2, zC, 37)]) HG.out (by simp))
  clear HG
  refine wp_region_noPanic ?_
  refine wp_region_held_drew (S := fun wq => wq.cell? ⟨b20, 0, none⟩ = some (.int .u64 gx) ∧ wq.cell? ⟨b20, 1, none⟩ = some (.int .u64 gy) ∧ HR w wq [(b20, #[.int .u64 gx, .int .u64 gy], 24), (b2, zC, 37)]) (by kernel_rfl) ?_ (fun hHeld => ?_)
  · exact ⟨HR.cell (HR.drew HQ.out) (b := b20) (cs := #[.int .u64 gx, .int .u64 gy]) (t := 24) (by simp) 0 rfl, HR.cell (HR.drew HQ.out) (b := b20) (cs := #[.int .u64 gx, .int .u64 gy]) (t := 24) (by simp) 1 rfl, HR.drew HQ.out⟩
  refine tk 0 hHeld ?_; refine tk 1 hHeld ?_; refine tk 2 hHeld ?_; refine tk 3 hHeld ?_
  refine stepH 4 (by kernel_rfl) rfl (by rfl) (fun K hK => ?_)
  go_simp
  refine (cnz.out _ (hB.out _ hHeld.2.2.2)).mono ?_
  rintro e wc1 ⟨rfl, hbc1⟩
  have HX := (HR.drew HF'.out).next hbc1
  refine hK.out _ _ ?_ (fun hHeld => ?_)
  · exact ⟨HR.cell (hHeld.2.2.next hbc1) (b := b20) (cs := #[.int .u64 gx, .int .u64 gy]) (t := 24) (by simp) 0 rfl, HR.cell (hHeld.2.2.next hbc1) (b := b20) (cs := #[.int .u64 gx, .int .u64 gy]) (t := 24) (by simp) 1 rfl, hHeld.2.2.next hbc1⟩
  clear hK K
  try simp only [Act.put, List.setIfInBounds_toArray, List.set_cons_zero, List.set_cons_succ]
  refine tk 5 hHeld ?_; refine tk 6 hHeld ?_
  have hth := (HX.row (b := b5) (cs := #[.int .u64 t.root, .int .u64 t.inn, .int .u64 t.out, .int .u64 t.fx, .int .u64 t.fy, .int .u64 t.tx, .int .u64 t.ty, .int .u64 t.seq, .int .u64 t.e0, .int .u64 t.e1, .int .u64 t.m0, .int .u64 t.m1, .int .u64 t.n0x, .int .u64 t.n0y, .slice t.s0 t.l0 t.c0, .int .u64 t.n1x, .int .u64 t.n1y, .slice t.s1 t.l1 t.c1, .int .u64 t.a0, .int .u64 t.a1, .bool t.ia, .int .u64 t.xa, .int .u64 t.ya, .bool t.ib, .int .u64 t.xb, .int .u64 t.yb, .bool t.ic, .int .u64 t.xc, .int .u64 t.yc, .int .u64 0, .int .u64 0, .int .u64 0]) (t := 37) (by simp)).thereMid 29 3 (by simp)
  have HY := HR.putMany (cs := #[.int .u64 t.root, .int .u64 t.inn, .int .u64 t.out, .int .u64 t.fx, .int .u64 t.fy, .int .u64 t.tx, .int .u64 t.ty, .int .u64 t.seq, .int .u64 t.e0, .int .u64 t.e1, .int .u64 t.m0, .int .u64 t.m1, .int .u64 t.n0x, .int .u64 t.n0y, .slice t.s0 t.l0 t.c0, .int .u64 t.n1x, .int .u64 t.n1y, .slice t.s1 t.l1 t.c1, .int .u64 t.a0, .int .u64 t.a1, .bool t.ia, .int .u64 t.xa, .int .u64 t.ya, .bool t.ib, .int .u64 t.xb, .int .u64 t.yb, .bool t.ic, .int .u64 t.xc, .int .u64 t.yc, .int .u64 0, .int .u64 0, .int .u64 0]) (cs' := #[.int .u64 t.root, .int .u64 t.inn, .int .u64 t.out, .int .u64 t.fx, .int .u64 t.fy, .int .u64 t.tx, .int .u64 t.ty, .int .u64 t.seq, .int .u64 t.e0, .int .u64 t.e1, .int .u64 t.m0, .int .u64 t.m1, .int .u64 t.n0x, .int .u64 t.n0y, .slice t.s0 t.l0 t.c0, .int .u64 t.n1x, .int .u64 t.n1y, .slice t.s1 t.l1 t.c1, .int .u64 t.a0, .int .u64 t.a1, .bool t.ia, .int .u64 t.xa, .int .u64 t.ya, .bool t.ib, .int .u64 t.xb, .int .u64 t.yb, .bool t.ic, .int .u64 t.xc, .int .u64 t.yc, .int .u64 gx, .int .u64 gy, .int .u64 vz]) HX (by have := hbs.out; simp; omega) (by have := hd5.out; omega) (#[.int .u64 gx, .int .u64 gy, .int .u64 vz] : Array Value).toList 29 (by simp) rfl
  refine stepH 7 (by kernel_rfl) rfl (by rfl) ?_
  intro K hK
  refine wp_store_mid 35 _ _ rfl b5 29 #[.int .u64 gx, .int .u64 gy, .int .u64 vz] rfl rfl hth sizSG (one3u _ _ _) ?_
  refine hK.out _ _ ?_ (fun hHeld => ?_)
  · exact ⟨HR.cell (HR.otherMany (D := b5) (by have := hbs.out; have := hd20.out; simp; omega) (by have := hd5.out; omega) (#[.int .u64 gx, .int .u64 gy, .int .u64 vz] : Array Value).toList 29 _ hHeld.2.2) (b := b20) (cs := #[.int .u64 gx, .int .u64 gy]) (t := 24) (by simp) 0 rfl, HR.cell (HR.otherMany (D := b5) (by have := hbs.out; have := hd20.out; simp; omega) (by have := hd5.out; omega) (#[.int .u64 gx, .int .u64 gy, .int .u64 vz] : Array Value).toList 29 _ hHeld.2.2) (b := b20) (cs := #[.int .u64 gx, .int .u64 gy]) (t := 24) (by simp) 1 rfl, (HR.otherMany (D := b5) (by have := hbs.out; have := hd20.out; simp; omega) (by have := hd5.out; omega) (#[.int .u64 gx, .int .u64 gy, .int .u64 vz] : Array Value).toList 29 _ hHeld.2.2)⟩
  clear hK K
  try simp only [Act.put, List.setIfInBounds_toArray, List.set_cons_zero, List.set_cons_succ]
  generalize wc1.setCells b5 29 (#[.int .u64 gx, .int .u64 gy, .int .u64 vz] : Array Value).toList = w34 at HY hHeld ⊢
  refine wpAnyH_done (by kernel_rfl) (NoPanic.normal ?_) _
  have H34 : Hid (HR w _ [(b5, #[.int .u64 t.root, .int .u64 t.inn, .int .u64 t.out, .int .u64 t.fx, .int .u64 t.fy, .int .u64 t.tx, .int .u64 t.ty, .int .u64 t.seq, .int .u64 t.e0, .int .u64 t.e1, .int .u64 t.m0, .int .u64 t.m1, .int .u64 t.n0x, .int .u64 t.n0y, .slice t.s0 t.l0 t.c0, .int .u64 t.n1x, .int .u64 t.n1y, .slice t.s1 t.l1 t.c1, .int .u64 t.a0, .int .u64 t.a1, .bool t.ia, .int .u64 t.xa, .int .u64 t.ya, .bool t.ib, .int .u64 t.xb, .int .u64 t.yb, .bool t.ic, .int .u64 t.xc, .int .u64 t.yc, .int .u64 gx, .int .u64 gy, .int .u64 vz], 37), (b2, zC, 37)]) := Lib.hid HY
  clear hHeld HX HY HQ HF' hth hsq
  refine hK34 _ _ ?_
  clear hK34
  cases hk : (fb && (fa && (fc && fg))) with
  | false => exact rrN fb fa fc fg _ len c n w w34 b2 b5 hbs (gD t gx gy vz) H34 R hk (hN.out gx gy fg fdg.out hk)
  | true =>
    simp only [Bool.and_eq_true] at hk
    obtain ⟨rfl, rfl, rfl, rfl⟩ := hk
    obtain ⟨y1, y2, y3, y4⟩ := cY.out gx gy fdg.out rfl
    exact rrY _ len c n w w34 b2 b5 hbs (gD t gx gy vz) H34 R y1 y2 y3 (fun a b => y4 a (by omega))



end Go.Proofs.Ytkfimfjjmdjbdaa
/- Walks: the reference of layer 19: what its reader answers. -/
namespace Go.Proofs.Ytkfimfjjmdjbdaa
open Go.RowKit
set_option linter.unusedVariables false
set_option linter.unusedSimpArgs false

/-- Where the bodies lie. -/
def RrB (b o c : Nat) (t : TxD) : Prop := t.s0 = some ⟨b, o + 88, none⟩ ∧ t.l0 = 32 ∧ t.c0 = c - 88 ∧ t.s1 = some ⟨b, o + 128, none⟩ ∧ t.l1 = 32 ∧ t.c1 = c - 128
/-- What the reference answers. -/
def RrE (L : List Nat) (b o c : Nat) (Z : Array Value) (k : Int) : Prop :=
  (k = 3 ∧ Z = zC ∧ ¬ (posL L 3 + 16 ≤ L.length ∧ RrW L)) ∨ ∃ t, RrA L t ∧ posL L 3 + 16 ≤ L.length ∧ RrB b o c t ∧
    ((mayB t = false ∧ k = 3 ∧ Z = zC) ∨ (mayB t = true ∧ posL L 3 + 16 < L.length ∧ k = 4 ∧ Z = zC) ∨ (mayB t = true ∧ ¬ posL L 3 + 16 < L.length ∧ k = 0 ∧ Z = txC t))
def RrO (L : List Nat) (b o c : Nat) (w : World) (e : Ending) (w' : World) : Prop := ∃ (Z : Array Value) (k : Int), e = .returned (.tuple #[.agg Z, .int .i64 k]) ∧ RrE L b o c Z k ∧ Below w.heap.size w w'
theorem PtO.lt {n : Nat} {X Y : Int} (h : PtO n X Y) (hn : n < 18446744073709551616) : X ≤ 18446744073709551615 ∧ Y ≤ 18446744073709551615 := by
  have h1 := (Obol.read_is n hn).2 _ h.2.2
  have e : Obol.R < 18446744073709551616 := by decide
  have h2 : X.toNat < Obol.R := h1.2.1
  have h3 : Y.toNat < Obol.R := h1.2.2.1
  omega
theorem CtO.lt {M : List Nat} {i : Bool} {X Y : Int} (h : CtO M i X Y) (hM : ∀ i, M.getD i 0 < 256) : X ≤ 18446744073709551615 ∧ Y ≤ 18446744073709551615 := by
  have h1 := Obol.crd_lt hM h.2.2
  have h2 : X.toNat < 18446744073709551616 := h1.1
  have h3 : Y.toNat < 18446744073709551616 := h1.2
  omega
theorem numAt_lt {L : List Nat} (hb : ∀ i, L.getD i 0 < 256) {k : Nat} (h : k + 8 ≤ L.length) : numAt L k < 18446744073709551616 := by
  have H := b8_at h hb
  exact Obol.num8_lt (Obol.mem_lt H.lt) H.len
theorem ptB_lt {L : List Nat} (hb : ∀ i, L.getD i 0 < 256) (k : Nat) (i : Nat) : (ptB L k).getD i 0 < 256 := by
  unfold ptB
  rw [Obol.gd_take]
  split
  · rw [Obol.gd_drop]; exact hb _
  · omega
theorem RrA.ok {L : List Nat} {t : TxD} (h : RrA L t) (hb : ∀ i, L.getD i 0 < 256) (hl : posL L 3 + 16 ≤ L.length) : TxOk t := by
  have hp := (posL_le L 3).2
  have l_root := numAt_lt hb (k := 0) (by omega)
  have e_root := h.root
  have l_inn := numAt_lt hb (k := 8) (by omega)
  have e_inn := h.inn
  have l_out := numAt_lt hb (k := 16) (by omega)
  have e_out := h.out
  have l_fx := h.fx.lt (numAt_lt hb (k := 24) (by omega))
  have l_tx := h.tx.lt (numAt_lt hb (k := 32) (by omega))
  have l_seq := numAt_lt hb (k := 40) (by omega)
  have e_seq := h.seq
  have l_e0 := numAt_lt hb (k := 48) (by omega)
  have e_e0 := h.e0
  have l_e1 := numAt_lt hb (k := 56) (by omega)
  have e_e1 := h.e1
  have l_m0 := numAt_lt hb (k := 64) (by omega)
  have e_m0 := h.m0
  have l_m1 := numAt_lt hb (k := 72) (by omega)
  have e_m1 := h.m1
  have l_n0x := h.n0x.lt (numAt_lt hb (k := 80) (by omega))
  have l_n1x := h.n1x.lt (numAt_lt hb (k := 120) (by omega))
  have l_a0 := numAt_lt hb (k := 160) (by omega)
  have e_a0 := h.a0
  have l_a1 := numAt_lt hb (k := 168) (by omega)
  have e_a1 := h.a1
  have l_ia := h.ia.lt (ptB_lt hb 0)
  have l_ib := h.ib.lt (ptB_lt hb 1)
  have l_ic := h.ic.lt (ptB_lt hb 2)
  have l_gx := h.gx.lt (numAt_lt hb (k := (posL L 3)) (by omega))
  have l_gz := numAt_lt hb (k := (posL L 3 + 8)) (by omega)
  have e_gz := h.gz
  exact { root0 := by omega, root1 := by omega, inn0 := by omega, inn1 := by omega, out0 := by omega, out1 := by omega, fx0 := h.fx.1, fx1 := l_fx.1, fy0 := h.fx.2.1, fy1 := l_fx.2, tx0 := h.tx.1, tx1 := l_tx.1, ty0 := h.tx.2.1, ty1 := l_tx.2, seq0 := by omega, seq1 := by omega, e00 := by omega, e01 := by omega, e10 := by omega, e11 := by omega, m00 := by omega, m01 := by omega, m10 := by omega, m11 := by omega, n0x0 := h.n0x.1, n0x1 := l_n0x.1, n0y0 := h.n0x.2.1, n0y1 := l_n0x.2, n1x0 := h.n1x.1, n1x1 := l_n1x.1, n1y0 := h.n1x.2.1, n1y1 := l_n1x.2, a00 := by omega, a01 := by omega, a10 := by omega, a11 := by omega, xa0 := h.ia.1, xa1 := l_ia.1, ya0 := h.ia.2.1, ya1 := l_ia.2, xb0 := h.ib.1, xb1 := l_ib.1, yb0 := h.ib.2.1, yb1 := l_ib.2, xc0 := h.ic.1, xc1 := l_ic.1, yc0 := h.ic.2.1, yc1 := l_ic.2, gx0 := h.gx.1, gx1 := l_gx.1, gy0 := h.gx.2.1, gy1 := l_gx.2, gz0 := by omega, gz1 := by omega }
theorem FdO.no {n : Nat} {X Y : Int} (h : FdO n X Y false) : ¬ ∃ p, Obol.readN n = some p := fun ⟨p, hp⟩ => by
  rw [h.2 rfl] at hp
  cases hp
theorem rr_no {L : List Nat} {ax ay cx cy p0 q0 p1 q1 gx gy : Int} {P : List (Bool × Int × Int)} {fa fc f0 f1 fg fb fb0 : Bool} (h24 : FdO (numAt L 24) ax ay fa) (h32 : FdO (numAt L 32) cx cy fc) (h80 : FdO (numAt L 80) p0 q0 f0) (h120 : FdO (numAt L 120) p1 q1 f1) (hfb : fb0 = (f0 && f1)) (hPf : PfJ L 3 fb0 fb P)
    (hg : FdO (numAt L (posL L 3)) gx gy fg) (hk : (fb && (fa && (fc && fg))) = false) : ¬ RrW L := by
  rintro ⟨r24, r32, r80, r120, c0, c1, c2, rg⟩
  cases fa with
  | false => exact h24.no r24
  | true => cases fc with
    | false => exact h32.no r32
    | true => cases fg with
      | false => exact hg.no rg
      | true =>
        have hf : fb = false := by cases fb <;> simp at hk ⊢
        rcases hPf.2.2 hf with h | ⟨i, hi, h⟩
        · cases f0 with
          | false => exact h80.no r80
          | true => cases f1 with
            | false => exact h120.no r120
            | true => rw [h] at hfb; cases hfb
        · rcases (by omega : i = 0 ∨ i = 1 ∨ i = 2) with rfl | rfl | rfl
          · obtain ⟨p, hp⟩ := c0; rw [h] at hp; cases hp
          · obtain ⟨p, hp⟩ := c1; rw [h] at hp; cases hp
          · obtain ⟨p, hp⟩ := c2; rw [h] at hp; cases hp
theorem rr_yes {L : List Nat} {b o c : Nat} {v0 v8 v16 v40 v48 v56 v64 v72 v160 v168 ax ay cx cy p0 q0 p1 q1 xa ya xb yb xc yc gx gy : Int} {fa fc f0 f1 fb fb0 ia ib ic : Bool} (n0 : ((numAt L 0 : Nat) : Int) = v0) (n8 : ((numAt L 8 : Nat) : Int) = v8) (n16 : ((numAt L 16 : Nat) : Int) = v16) (n40 : ((numAt L 40 : Nat) : Int) = v40) (n48 : ((numAt L 48 : Nat) : Int) = v48) (n56 : ((numAt L 56 : Nat) : Int) = v56) (n64 : ((numAt L 64 : Nat) : Int) = v64) (n72 : ((numAt L 72 : Nat) : Int) = v72) (n160 : ((numAt L 160 : Nat) : Int) = v160) (n168 : ((numAt L 168 : Nat) : Int) = v168)
    (h24 : FdO (numAt L 24) ax ay fa) (h32 : FdO (numAt L 32) cx cy fc) (h80 : FdO (numAt L 80) p0 q0 f0) (h120 : FdO (numAt L 120) p1 q1 f1) (hfb : fb0 = (f0 && f1)) (hPf : PfJ L 3 fb0 fb [(ia, xa, ya), (ib, xb, yb), (ic, xc, yc)]) (hg : FdO (numAt L (posL L 3)) gx gy true) (hk : (fb && (fa && fc)) = true) : RrA L (gD ({ root := v0, inn := v8, out := v16, fx := ax, fy := ay, tx := cx, ty := cy, seq := v40, e0 := v48, e1 := v56, m0 := v64, m1 := v72, n0x := p0, n0y := q0, n1x := p1, n1y := q1, a0 := v160, a1 := v168, ia := ia, xa := xa, ya := ya, ib := ib, xb := xb, yb := yb, ic := ic, xc := xc, yc := yc, gx := 0, gy := 0, gz := 0, s0 := some ⟨b, o + 88, none⟩, l0 := 32, c0 := c - 88, s1 := some ⟨b, o + 128, none⟩, l1 := 32, c1 := c - 128 } : TxD) gx gy ((numAt L (posL L 3 + 8) : Nat) : Int)) := by
  simp only [Bool.and_eq_true] at hk
  obtain ⟨rfl, rfl, rfl⟩ := hk
  obtain ⟨hb0, hP⟩ := hPf.2.1 rfl
  rw [hb0] at hfb
  have hf : f0 = true ∧ f1 = true := by
    have := hfb.symm
    simpa only [Bool.and_eq_true] using this
  obtain ⟨rfl, rfl⟩ := hf
  exact { root := n0, inn := n8, out := n16, fx := h24.pt, tx := h32.pt, seq := n40, e0 := n48, e1 := n56, m0 := n64, m1 := n72, n0x := h80.pt, n1x := h120.pt, a0 := n160, a1 := n168, ia := hP 0 (by simp), ib := hP 1 (by simp), ic := hP 2 (by simp), gx := hg.pt, gz := rfl }

end Go.Proofs.Ytkfimfjjmdjbdaa
/- Walks: what the statements ask of errors. -/
namespace Go.Proofs.Ytkfimfjjmdjbdaa
open Go.RowKit
set_option linter.unusedVariables false
set_option linter.unusedSimpArgs false

set_option maxRecDepth 8000 in
theorem lCodeN (w : World) : Calls Try.prog 17 #[.nilIface] w fun e w' => e = .returned (.int .i64 0) ∧ Below w.heap.size w w' := by
  have hN := fun W => nilN19 W
  go_enter Try.func17, Try.ntmps17
  go_wp2_with fail
  go_ret
  exact ⟨rfl, Below.refl _ _⟩
set_option maxRecDepth 8000 in
set_option maxHeartbeats 1000000 in
theorem lCodeE (k : Int) (k0 : 1 ≤ k) (k1 : k ≤ 15) (w : World) : Calls Try.prog 17 #[errV k] w fun e w' => e = .returned (.int .i64 k) ∧ Below w.heap.size w w' := by
  have hN := fun W => eqN19 W k
  have hE0 := fun W i => eq19 W k i
  replace hE0 := Lib.hid hE0
  go_enter Try.func17, Try.ntmps17
  go_wp2_with fail
  clear hN
  go_loopw [3] (fun q wr => ∃ i : Int, q = .int .i64 i ∧ 1 ≤ i ∧ i ≤ k ∧ wr = w) (fun q _ => (16 - intOf q).toNat)
  case atStart => exact ⟨1, rfl, by omega, by omega, rfl⟩
  case round =>
    obtain ⟨i, rfl, i0, i1, hw⟩ := hrel
    have i2 : i ≤ 15 := by omega
    by_cases hi : i = k
    · subst hi
      have hE := fun W => hE0.out W i
      rw [show (i == i) = true from beq_self_eq_true i] at hE
      go_wp2_with fail
      go_ret
      exact ⟨rfl, Below.refl _ _⟩
    · have hE := fun W => hE0.out W i
      rw [show (k == i) = false from beq_eq_false_iff_ne.2 (fun h => hi h.symm)] at hE
      go_wp2_with fail
      go_roundw
      case rel => exact ⟨_, rfl, by omega, by omega, (by first | exact hw | trivial)⟩
      case measure => simp [intOf]; omega

end Go.Proofs.Ytkfimfjjmdjbdaa
/- Walks: package tx: what Read answers, told for the laws. -/
namespace Go.Proofs.Ytkfimfjjmdjbdaa
open Go.RowKit
set_option linter.unusedVariables false

theorem OwF.sl {g e : Nat} {z : Array Value} {M : List Nat} {b5 br base : Nat} {W : World} (h : OwF g e z M b5 br) (hR : Row W g z 5) (hb : g < base) : SlI base W (some ⟨g, 0, none⟩) e M :=
  ⟨by rw [h.len]; exact h.le, by have := h.cap; unfold maxLen at this; omega, (fun h => by cases h), fun _ => ⟨g, 0, rfl, hb, fun i hi => by
    rw [Nat.zero_add]
    refine hR.cell i ?_
    have hi2 : i < 32 := by rw [← h.len]; exact hi
    have e1 : z[i]? = (z.toList.take 32)[i]? := by rw [List.getElem?_take, if_pos hi2, Array.getElem?_toList]
    rw [e1, h.take]
    simp only [List.getElem?_map, List.getElem?_eq_getElem hi, List.getD_eq_getElem?_getD]
    rfl⟩⟩
/-- The three answers. -/
def RdE (t : TxD) (z : Obol.Rs) (Z : Array Value) (E : Value) : Prop :=
  ((z.1 = true ∨ mayB t = false) ∧ Z = zC ∧ E = errV 3) ∨ (z.1 = false ∧ mayB t = true ∧ 0 < z.2.length ∧ Z = zC ∧ E = errV 4) ∨ (z.1 = false ∧ mayB t = true ∧ z.2 = [] ∧ Z = txC t ∧ E = .nilIface)
theorem RdE.of (t : TxD) (z : Obol.Rs) : ∃ Z E, rdRes t z = .tuple #[.agg Z, E] ∧ RdE t z Z E := by
  unfold rdRes
  by_cases h : z.1 = true ∨ mayB t = false
  · rw [if_pos h]
    exact ⟨_, _, rfl, .inl ⟨h, rfl, rfl⟩⟩
  · rw [if_neg h]
    have h1 : z.1 = false := by
      cases hz : z.1 with
      | true => exact (h (.inl hz)).elim
      | false => rfl
    have h2 : mayB t = true := by
      cases hm : mayB t with
      | true => rfl
      | false => exact (h (.inr hm)).elim
    by_cases hl : 0 < z.2.length
    · rw [if_pos hl]
      exact ⟨_, _, rfl, .inr (.inl ⟨h1, h2, hl, rfl, rfl⟩)⟩
    · rw [if_neg hl]
      exact ⟨_, _, rfl, .inr (.inr ⟨h1, h2, List.eq_nil_of_length_eq_zero (by omega), rfl, rfl⟩)⟩
theorem RdE.size {t : TxD} {z : Obol.Rs} {Z : Array Value} {E : Value} (h : RdE t z Z E) : Z.size = zC.size ∧ Z.all (·.oneCell') = true ∧ (Try.prog.info? 37).map (·.size) = some Z.size := by
  rcases h with ⟨_, rfl, _⟩ | ⟨_, _, _, rfl, _⟩ | ⟨_, _, _, rfl, _⟩
  · exact ⟨rfl, oneZ, sizTX⟩
  · exact ⟨rfl, oneZ, sizTX⟩
  · exact ⟨rfl, oneTx t, sizTX⟩
structure RdB (base : Nat) (t : TxD) (M0 M1 : List Nat) (g0 g1 : Nat) (z0 z1 : Array Value) : Prop where
  s0 : t.s0 = some ⟨g0, 0, none⟩
  s1 : t.s1 = some ⟨g1, 0, none⟩
  l0 : t.l0 = 32
  l1 : t.l1 = 32
  m0 : M0.length = 32
  m1 : M1.length = 32
  b0 : base ≤ g0
  b1 : base ≤ g1
  k0 : ∀ (W : World) (B : Nat), Row W g0 z0 5 → g0 < B → SlI B W t.s0 t.c0 M0
  k1 : ∀ (W : World) (B : Nat), Row W g1 z1 5 → g1 < B → SlI B W t.s1 t.c1 M1
theorem RdB.bods {base : Nat} {t : TxD} {M0 M1 : List Nat} {g0 g1 : Nat} {z0 z1 : Array Value} (h : RdB base t M0 M1 g0 g1 z0 z1) {W : World} (h0 : Row W g0 z0 5) (h1 : Row W g1 z1 5) : Bods t M0 M1 W.heap.size W :=
  ⟨h.m0.trans h.l0.symm, h.m1.trans h.l1.symm, h.k0 W _ h0 h0.lt, h.k1 W _ h1 h1.lt⟩
/-- What Read leaves. -/
def RdO (L : List Nat) (w : World) (e : Ending) (w' : World) : Prop := ∃ (Z : Array Value) (E : Value) (t : TxD) (M0 M1 : List Nat) (z : Obol.Rs) (g0 g1 : Nat) (z0 z1 : Array Value),
  e = .returned (.tuple #[.agg Z, E]) ∧ RdC L t M0 M1 z ∧ TxOk t ∧ RdB w.heap.size t M0 M1 g0 g1 z0 z1 ∧ RdE t z Z E ∧ Row w' g0 z0 5 ∧ Row w' g1 z1 5 ∧ Below w.heap.size w w'
theorem tReadO (ao : Option Addr) (n c : Nat) (L : List Nat) (hn : L.length = n) (hb : ∀ i, L.getD i 0 < 256) (w : World) (hS : SlI w.heap.size w ao c L) : Calls Try.prog 15 #[.slice ao n c] w (RdO L w) := by
  refine (tRead ao n c L hn hb w hS).mono ?_
  rintro e w' ⟨t, M0, M1, z, b5, br, g0, e0, g1, e1, z0, z1, hC, hk, hB, ⟨p0, q0, rfl⟩, ⟨p1, q1, rfl⟩, o0, o1, hbr, _, r0, r1, rfl⟩
  obtain ⟨Z, E, h1, h2⟩ := RdE.of t z
  rw [h1]
  exact ⟨Z, E, t, M0, M1, z, g0, g1, z0, z1, rfl, hC, hk, ⟨p0, p1, q0, q1, o0.len, o1.len, by have := o0.nr; omega, by have := o1.nr; omega, fun W B hR hl => by rw [p0]; exact o0.sl hR hl, fun W B hR hl => by rw [p1]; exact o1.sl hR hl⟩, h2, r0, r1, hB⟩
/-- The same bytes are read alike. -/
theorem RdC.det {L : List Nat} {t u : TxD} {M0 M1 K0 K1 : List Nat} {z y : Obol.Rs} (h : RdC L t M0 M1 z) (g : RdC L u K0 K1 y) : Alike t u ∧ M0 = K0 ∧ M1 = K1 ∧ z = y := by
  obtain ⟨s0, s1, s2, s3, s4, s5, s6, s7, s8, s9, s10, s11, s12, s13, s14, s15, s16, s17, s18, s19, rfl, rfl, rfl, rfl, rfl, rfl, rfl, rfl, rfl, rfl, rfl, rfl, rfl, rfl, rfl, rfl, rfl, rfl, rfl, rfl, rfl, rfl, rfl, v_root, v_inn, v_out, v_fx, v_fy, v_tx, v_ty, v_seq, v_e0, v_e1, v_m0, v_m1, v_n0x, v_n0y, v_n1x, v_n1y, v_a0, v_a1, v_ia, v_xa, v_ya, v_ib, v_xb, v_yb, v_ic, v_xc, v_yc, v_gx, v_gy, v_gz⟩ := h
  obtain ⟨r0, r1, r2, r3, r4, r5, r6, r7, r8, r9, r10, r11, r12, r13, r14, r15, r16, r17, r18, r19, rfl, rfl, rfl, rfl, rfl, rfl, rfl, rfl, rfl, rfl, rfl, rfl, rfl, rfl, rfl, rfl, rfl, rfl, rfl, rfl, rfl, rfl, rfl, u_root, u_inn, u_out, u_fx, u_fy, u_tx, u_ty, u_seq, u_e0, u_e1, u_m0, u_m1, u_n0x, u_n0y, u_n1x, u_n1y, u_a0, u_a1, u_ia, u_xa, u_ya, u_ib, u_xb, u_yb, u_ic, u_xc, u_yc, u_gx, u_gy, u_gz⟩ := g
  exact ⟨⟨v_root.symm.trans u_root, v_inn.symm.trans u_inn, v_out.symm.trans u_out, v_fx.symm.trans u_fx, v_fy.symm.trans u_fy, v_tx.symm.trans u_tx, v_ty.symm.trans u_ty, v_seq.symm.trans u_seq, v_e0.symm.trans u_e0, v_e1.symm.trans u_e1, v_m0.symm.trans u_m0, v_m1.symm.trans u_m1, v_n0x.symm.trans u_n0x, v_n0y.symm.trans u_n0y, v_n1x.symm.trans u_n1x, v_n1y.symm.trans u_n1y, v_a0.symm.trans u_a0, v_a1.symm.trans u_a1, v_ia.symm.trans u_ia, v_xa.symm.trans u_xa, v_ya.symm.trans u_ya, v_ib.symm.trans u_ib, v_xb.symm.trans u_xb, v_yb.symm.trans u_yb, v_ic.symm.trans u_ic, v_xc.symm.trans u_xc, v_yc.symm.trans u_yc, v_gx.symm.trans u_gx, v_gy.symm.trans u_gy, v_gz.symm.trans u_gz⟩, rfl, rfl, rfl⟩
/-- A byte less isn't read. -/
theorem RdC.less {L : List Nat} {t u v : TxD} {L0 L1 M0 M1 K0 K1 : List Nat} {z y : Obol.Rs} (hL : L = wriL t L0 L1) (ht : TxOk t) (hm : MayI t) (n0 : L0.length = 32) (n1 : L1.length = 32) (h : RdC L u M0 M1 z)
    (hb : ∀ i, L.getD i 0 < 256) (n : Nat) (hn : n < L.length) (g : RdC (L.take n) v K0 K1 y) (hv : TxOk v) (k0 : K0.length = 32) (k1 : K1.length = 32) : y.1 = true ∨ mayB v = false := by
  cases hy : y.1 with
  | true => exact .inl rfl
  | false =>
    refine .inr ?_
    cases hmv : mayB v with
    | false => rfl
    | true =>
      have e := rdc_read g (fun i => by
        rw [List.getD_eq_getElem?_getD, List.getElem?_take]
        split
        · have := hb i; rwa [List.getD_eq_getElem?_getD] at this
        · simp) hy
      have e2 : L = wriL v K0 K1 ++ (y.2 ++ L.drop n) := by rw [← List.append_assoc, ← e, List.take_append_drop]
      have a := (rdc_back (r := []) (by rw [List.append_nil]; exact hL) ht hm n0 n1 h).2.2.2
      have b := (rdc_back e2 hv (MayI.of hmv) k0 k1 h).2.2.2
      rw [a] at b
      have c := congrArg (fun s => s.2.length) b
      simp only [List.length_append, List.length_drop, List.length_nil] at c
      omega

end Go.Proofs.Ytkfimfjjmdjbdaa
/- Walks: the reference of layer 19: two transactions that are alike are the same. -/
namespace Go.Proofs.Ytkfimfjjmdjbdaa
open Go.RowKit
set_option linter.unusedVariables false
set_option linter.unusedSimpArgs false

abbrev likeD (a : TxD) (p0 : Option Addr) (n0 q0 : Nat) (p1 : Option Addr) (n1 q1 : Nat) : TxD := { a with s0 := p0, l0 := n0, c0 := q0, s1 := p1, l1 := n1, c1 := q1 }
theorem Alike.eq {t u : TxD} (h : Alike t u) : t = likeD u t.s0 t.l0 t.c0 t.s1 t.l1 t.c1 := by
  cases t
  cases u
  unfold Alike at h
  simp only [TxD.mk.injEq, true_and, and_true] at h ⊢
  simp only [h, and_self]
theorem Alike.symm {t u : TxD} (h : Alike t u) : Alike u t := by
  unfold Alike at h ⊢
  simp only [h, and_self]
theorem Alike.trans {t u v : TxD} (h : Alike t u) (g : Alike u v) : Alike t v := by
  unfold Alike at h g ⊢
  simp only [h, g, and_self]
theorem Alike.refl (t : TxD) : Alike t t := by unfold Alike; simp only [and_self]
theorem SlI.convN {base : Nat} {w : World} {ao : Option Addr} {n cap : Nat} {L : List Nat} (h : SlI base w ao cap L) (hn : L.length = n) : (convert 26 9 (.slice ao n cap)).run Try.prog w = .ok (.string (strB L)) w := by
  subst hn
  exact h.conv9
theorem eqPr (ia : Bool) (xa ya : Int) (ib : Bool) (xb yb : Int) (ic : Bool) (xc yc : Int) (W : World) : (binOp .eql 33 (.agg #[.bool ia, .int .u64 xa, .int .u64 ya, .bool ib, .int .u64 xb, .int .u64 yb, .bool ic, .int .u64 xc, .int .u64 yc]) (.agg #[.bool ia, .int .u64 xa, .int .u64 ya, .bool ib, .int .u64 xb, .int .u64 yb, .bool ic, .int .u64 xc, .int .u64 yc])).run Try.prog W = .ok (.bool true) W := by
  go_simp
theorem wpList_loadm_on {P : Program} {ops : Array Oper} {rest : List Oper} {o : Oper} {a : Act} {w : World} {Q : Exit → Act → World → Prop} (hw : Region.wanted o (yielded ops a.tmps) = true) (ty : TypeId) (x : Operand) (ho : o.op = .load ty x)
    (b k : Nat) (hx : a.eval x = .pointer (some ⟨b, k, none⟩)) (cs : List Value) (d : TypeDesc) (hr : w.rangeAt b k cs) (hu : P.underlying ty = some d) (hd : d.isRow = true) (hi : (P.info? ty).map (·.size) = some cs.length)
    (h : wpList P ops Q rest (a.put o.dst (.agg cs.toArray)) w) : wpList P ops Q (o :: rest) a w :=
  wpList_on hw fun _ hK => by
    unfold Oper.wp execOp
    simp only [ho, hx, Instr.loadAt, Instr.sureAddr, Sem.run_bind, Sem.run_pure, Result.andThen_ok, run_loadVar_mid w b k ty cs d hr hu hd hi]
    exact hK _ _ h
theorem Row.part {w : World} {b : Nat} {cs : Array Value} {t : TypeId} (h : Row w b cs t) (o : Nat) (vs : List Value) (hv : ∀ j v, vs[j]? = some v → cs[o + j]? = some v) : w.rangeAt b o vs := fun j v hj => h.cell (o + j) (hv j v hj)
set_option maxRecDepth 100000 in
set_option maxHeartbeats 100000000 in
theorem lSame (a : TxD) (p0 : Option Addr) (n0 q0 : Nat) (p1 : Option Addr) (n1 q1 : Nat) (L0 L1 : List Nat) (w : World) (hn : L0.length = a.l0 ∧ L1.length = a.l1 ∧ L0.length = n0 ∧ L1.length = n1)
    (hS0 : SlI w.heap.size w a.s0 a.c0 L0) (hS1 : SlI w.heap.size w a.s1 a.c1 L1) (hT0 : SlI w.heap.size w p0 q0 L0) (hT1 : SlI w.heap.size w p1 q1 L1) :
    Calls Try.prog 18 #[txV a, txV (likeD a p0 n0 q0 p1 n1 q1)] w fun e w' => e = .returned (.bool true) ∧ Below w.heap.size w w' := by
  have S0 := Lib.hid hS0
  have S1 := Lib.hid hS1
  have T0 := Lib.hid hT0
  have T1 := Lib.hid hT1
  replace hn := Lib.hid hn
  clear hS0 hS1 hT0 hT1
  go_enter Try.func18, Try.ntmps18
  go_upto_region 1 with fail
  have E := ((HR.refl w).new (txC a) 37).new (txC (likeD a p0 n0 q0 p1 n1 q1)) 37
  simp only [World.size_alloc] at E
  generalize (w.alloc (.cells (txC a) 37)).alloc (.cells (txC (likeD a p0 n0 q0 p1 n1 q1)) 37) = w1 at E ⊢
  obtain ⟨b3, hb3⟩ : ∃ z, w.heap.size + 1 = z := ⟨_, rfl⟩
  obtain ⟨b2, hb2⟩ : ∃ z, w.heap.size = z := ⟨_, rfl⟩
  rw [hb3, hb2] at E ⊢
  have H0 : Hid (HR w w1 [(b3, txC (likeD a p0 n0 q0 p1 n1 q1), 37), (b2, txC a, 37)]) := Lib.hid E
  clear E hb3
  replace hb2 := Lib.hid hb2
  go_upto_region 2 with fail
  go_loopw [5] (fun q wr => ∃ j : Nat, j ≤ 2 ∧ q = .int .i64 (j : Int) ∧ Hid (HR w wr [(b3, txC (likeD a p0 n0 q0 p1 n1 q1), 37), (b2, txC a, 37)])) (fun q _ => (2 - intOf q).toNat)
  case atStart => exact ⟨0, by omega, rfl, H0⟩
  case round =>
    clear H0
    obtain ⟨j, hj, rfl, H1⟩ := hrel
    rcases (by omega : j = 0 ∨ j = 1 ∨ j = 2) with rfl | rfl | rfl
    · go_upto_region 4 with fail
      refine wp_region_noPanic ?_
      refine wp_region_held_drew (S := fun wq => wq.cell? ⟨b2, 8, none⟩ = some (.int .u64 a.e0) ∧ wq.cell? ⟨b2, 10, none⟩ = some (.int .u64 a.m0) ∧ wq.cell? ⟨b2, 18, none⟩ = some (.int .u64 a.a0) ∧ wq.cell? ⟨b2, 12, none⟩ = some (.int .u64 a.n0x) ∧ wq.cell? ⟨b2, 13, none⟩ = some (.int .u64 a.n0y) ∧ wq.cell? ⟨b2, 14, none⟩ = some (.slice a.s0 a.l0 a.c0) ∧ wq.cell? ⟨b3, 8, none⟩ = some (.int .u64 a.e0) ∧ wq.cell? ⟨b3, 10, none⟩ = some (.int .u64 a.m0) ∧ wq.cell? ⟨b3, 18, none⟩ = some (.int .u64 a.a0) ∧ wq.cell? ⟨b3, 12, none⟩ = some (.int .u64 a.n0x) ∧ wq.cell? ⟨b3, 13, none⟩ = some (.int .u64 a.n0y) ∧ wq.cell? ⟨b3, 14, none⟩ = some (.slice p0 n0 q0) ∧ (convert 26 9 (.slice a.s0 a.l0 a.c0)).run Try.prog wq = .ok (.string (strB L0)) wq ∧ (convert 26 9 (.slice p0 n0 q0)).run Try.prog wq = .ok (.string (strB L0)) wq ∧ HR w wq [(b3, txC (likeD a p0 n0 q0 p1 n1 q1), 37), (b2, txC a, 37)]) (by kernel_rfl) ?_ (fun hHeld => ?_)
      · exact ⟨HR.cell (HR.drew H1.out) (b := b2) (cs := txC a) (t := 37) (by simp) 8 rfl, HR.cell (HR.drew H1.out) (b := b2) (cs := txC a) (t := 37) (by simp) 10 rfl, HR.cell (HR.drew H1.out) (b := b2) (cs := txC a) (t := 37) (by simp) 18 rfl, HR.cell (HR.drew H1.out) (b := b2) (cs := txC a) (t := 37) (by simp) 12 rfl, HR.cell (HR.drew H1.out) (b := b2) (cs := txC a) (t := 37) (by simp) 13 rfl, HR.cell (HR.drew H1.out) (b := b2) (cs := txC a) (t := 37) (by simp) 14 rfl, HR.cell (HR.drew H1.out) (b := b3) (cs := txC (likeD a p0 n0 q0 p1 n1 q1)) (t := 37) (by simp) 8 rfl, HR.cell (HR.drew H1.out) (b := b3) (cs := txC (likeD a p0 n0 q0 p1 n1 q1)) (t := 37) (by simp) 10 rfl, HR.cell (HR.drew H1.out) (b := b3) (cs := txC (likeD a p0 n0 q0 p1 n1 q1)) (t := 37) (by simp) 18 rfl, HR.cell (HR.drew H1.out) (b := b3) (cs := txC (likeD a p0 n0 q0 p1 n1 q1)) (t := 37) (by simp) 12 rfl, HR.cell (HR.drew H1.out) (b := b3) (cs := txC (likeD a p0 n0 q0 p1 n1 q1)) (t := 37) (by simp) 13 rfl, HR.cell (HR.drew H1.out) (b := b3) (cs := txC (likeD a p0 n0 q0 p1 n1 q1)) (t := 37) (by simp) 14 rfl, (S0.out.below (HR.drew H1.out).2).convN hn.out.1, (T0.out.below (HR.drew H1.out).2).convN hn.out.2.2.1, HR.drew H1.out⟩
      refine tk 0 hHeld ?_; refine tk 1 hHeld ?_; refine tk 2 hHeld ?_; refine tk 3 hHeld ?_; refine tk 4 hHeld ?_; refine tk 5 hHeld ?_; refine tk 6 hHeld ?_; refine tk 7 hHeld ?_; refine tk 8 hHeld ?_; refine tk 9 hHeld ?_; refine tk 10 hHeld ?_; refine tk 11 hHeld ?_; refine tk 12 hHeld ?_; refine tk 13 hHeld ?_; refine tk 14 hHeld ?_; refine tk 15 hHeld ?_; refine tk 16 hHeld ?_; refine tk 17 hHeld ?_; refine tk 18 hHeld ?_; refine tk 19 hHeld ?_; refine tk 20 hHeld ?_; refine tk 21 hHeld ?_; refine tk 22 hHeld ?_; refine tk 23 hHeld ?_; refine tk 24 hHeld ?_; refine tk 25 hHeld ?_; refine tk 26 hHeld ?_; refine tk 27 hHeld ?_; refine tk 28 hHeld ?_; refine tk 29 hHeld ?_; refine tk 30 hHeld ?_; refine tk 31 hHeld ?_; refine tk 32 hHeld ?_; refine tk 33 hHeld ?_; refine tk 34 hHeld ?_; refine tk 35 hHeld ?_; refine tk 36 hHeld ?_; refine tk 37 hHeld ?_; refine tk 38 hHeld ?_; refine tk 39 hHeld ?_; refine tk 40 hHeld ?_; refine tk 41 hHeld ?_; refine tk 42 hHeld ?_; refine tk 43 hHeld ?_; refine tk 44 hHeld ?_; refine tk 45 hHeld ?_; refine tk 46 hHeld ?_; refine tk 47 hHeld ?_; refine tk 48 hHeld ?_; refine tk 49 hHeld ?_; refine tk 50 hHeld ?_; refine tk 51 hHeld ?_; refine tk 52 hHeld ?_; refine tk 53 hHeld ?_; refine tk 54 hHeld ?_; refine tk 55 hHeld ?_; refine tk 56 hHeld ?_; refine tk 57 hHeld ?_; refine tk 58 hHeld ?_
      refine wpAnyH_done (by kernel_rfl) (NoPanic.normal ?_) _
      have HL := Lib.hid hHeld.2.2.2.2.2.2.2.2.2.2.2.2.2.2
      clear hHeld H1
      go_wp2_with fail
      go_roundw
      case rel => exact ⟨1, by omega, rfl, HL⟩
      case measure => simp [intOf]
    · go_upto_region 4 with fail
      refine wp_region_noPanic ?_
      refine wp_region_held_drew (S := fun wq => wq.cell? ⟨b2, 9, none⟩ = some (.int .u64 a.e1) ∧ wq.cell? ⟨b2, 11, none⟩ = some (.int .u64 a.m1) ∧ wq.cell? ⟨b2, 19, none⟩ = some (.int .u64 a.a1) ∧ wq.cell? ⟨b2, 15, none⟩ = some (.int .u64 a.n1x) ∧ wq.cell? ⟨b2, 16, none⟩ = some (.int .u64 a.n1y) ∧ wq.cell? ⟨b2, 17, none⟩ = some (.slice a.s1 a.l1 a.c1) ∧ wq.cell? ⟨b3, 9, none⟩ = some (.int .u64 a.e1) ∧ wq.cell? ⟨b3, 11, none⟩ = some (.int .u64 a.m1) ∧ wq.cell? ⟨b3, 19, none⟩ = some (.int .u64 a.a1) ∧ wq.cell? ⟨b3, 15, none⟩ = some (.int .u64 a.n1x) ∧ wq.cell? ⟨b3, 16, none⟩ = some (.int .u64 a.n1y) ∧ wq.cell? ⟨b3, 17, none⟩ = some (.slice p1 n1 q1) ∧ (convert 26 9 (.slice a.s1 a.l1 a.c1)).run Try.prog wq = .ok (.string (strB L1)) wq ∧ (convert 26 9 (.slice p1 n1 q1)).run Try.prog wq = .ok (.string (strB L1)) wq ∧ HR w wq [(b3, txC (likeD a p0 n0 q0 p1 n1 q1), 37), (b2, txC a, 37)]) (by kernel_rfl) ?_ (fun hHeld => ?_)
      · exact ⟨HR.cell (HR.drew H1.out) (b := b2) (cs := txC a) (t := 37) (by simp) 9 rfl, HR.cell (HR.drew H1.out) (b := b2) (cs := txC a) (t := 37) (by simp) 11 rfl, HR.cell (HR.drew H1.out) (b := b2) (cs := txC a) (t := 37) (by simp) 19 rfl, HR.cell (HR.drew H1.out) (b := b2) (cs := txC a) (t := 37) (by simp) 15 rfl, HR.cell (HR.drew H1.out) (b := b2) (cs := txC a) (t := 37) (by simp) 16 rfl, HR.cell (HR.drew H1.out) (b := b2) (cs := txC a) (t := 37) (by simp) 17 rfl, HR.cell (HR.drew H1.out) (b := b3) (cs := txC (likeD a p0 n0 q0 p1 n1 q1)) (t := 37) (by simp) 9 rfl, HR.cell (HR.drew H1.out) (b := b3) (cs := txC (likeD a p0 n0 q0 p1 n1 q1)) (t := 37) (by simp) 11 rfl, HR.cell (HR.drew H1.out) (b := b3) (cs := txC (likeD a p0 n0 q0 p1 n1 q1)) (t := 37) (by simp) 19 rfl, HR.cell (HR.drew H1.out) (b := b3) (cs := txC (likeD a p0 n0 q0 p1 n1 q1)) (t := 37) (by simp) 15 rfl, HR.cell (HR.drew H1.out) (b := b3) (cs := txC (likeD a p0 n0 q0 p1 n1 q1)) (t := 37) (by simp) 16 rfl, HR.cell (HR.drew H1.out) (b := b3) (cs := txC (likeD a p0 n0 q0 p1 n1 q1)) (t := 37) (by simp) 17 rfl, (S1.out.below (HR.drew H1.out).2).convN hn.out.2.1, (T1.out.below (HR.drew H1.out).2).convN hn.out.2.2.2, HR.drew H1.out⟩
      refine tk 0 hHeld ?_; refine tk 1 hHeld ?_; refine tk 2 hHeld ?_; refine tk 3 hHeld ?_; refine tk 4 hHeld ?_; refine tk 5 hHeld ?_; refine tk 6 hHeld ?_; refine tk 7 hHeld ?_; refine tk 8 hHeld ?_; refine tk 9 hHeld ?_; refine tk 10 hHeld ?_; refine tk 11 hHeld ?_; refine tk 12 hHeld ?_; refine tk 13 hHeld ?_; refine tk 14 hHeld ?_; refine tk 15 hHeld ?_; refine tk 16 hHeld ?_; refine tk 17 hHeld ?_; refine tk 18 hHeld ?_; refine tk 19 hHeld ?_; refine tk 20 hHeld ?_; refine tk 21 hHeld ?_; refine tk 22 hHeld ?_; refine tk 23 hHeld ?_; refine tk 24 hHeld ?_; refine tk 25 hHeld ?_; refine tk 26 hHeld ?_; refine tk 27 hHeld ?_; refine tk 28 hHeld ?_; refine tk 29 hHeld ?_; refine tk 30 hHeld ?_; refine tk 31 hHeld ?_; refine tk 32 hHeld ?_; refine tk 33 hHeld ?_; refine tk 34 hHeld ?_; refine tk 35 hHeld ?_; refine tk 36 hHeld ?_; refine tk 37 hHeld ?_; refine tk 38 hHeld ?_; refine tk 39 hHeld ?_; refine tk 40 hHeld ?_; refine tk 41 hHeld ?_; refine tk 42 hHeld ?_; refine tk 43 hHeld ?_; refine tk 44 hHeld ?_; refine tk 45 hHeld ?_; refine tk 46 hHeld ?_; refine tk 47 hHeld ?_; refine tk 48 hHeld ?_; refine tk 49 hHeld ?_; refine tk 50 hHeld ?_; refine tk 51 hHeld ?_; refine tk 52 hHeld ?_; refine tk 53 hHeld ?_; refine tk 54 hHeld ?_; refine tk 55 hHeld ?_; refine tk 56 hHeld ?_; refine tk 57 hHeld ?_; refine tk 58 hHeld ?_
      refine wpAnyH_done (by kernel_rfl) (NoPanic.normal ?_) _
      have HL := Lib.hid hHeld.2.2.2.2.2.2.2.2.2.2.2.2.2.2
      clear hHeld H1
      go_wp2_with fail
      go_roundw
      case rel => exact ⟨2, by omega, rfl, HL⟩
      case measure => simp [intOf]
    · have ka0 := H1.out.cell (b := b2) (cs := txC a) (t := 37) (by simp) 0 rfl
      have kb0 := H1.out.cell (b := b3) (cs := txC (likeD a p0 n0 q0 p1 n1 q1)) (t := 37) (by simp) 0 rfl
      have ka1 := H1.out.cell (b := b2) (cs := txC a) (t := 37) (by simp) 1 rfl
      have kb1 := H1.out.cell (b := b3) (cs := txC (likeD a p0 n0 q0 p1 n1 q1)) (t := 37) (by simp) 1 rfl
      have ka2 := H1.out.cell (b := b2) (cs := txC a) (t := 37) (by simp) 2 rfl
      have kb2 := H1.out.cell (b := b3) (cs := txC (likeD a p0 n0 q0 p1 n1 q1)) (t := 37) (by simp) 2 rfl
      have ka3 := H1.out.cell (b := b2) (cs := txC a) (t := 37) (by simp) 3 rfl
      have kb3 := H1.out.cell (b := b3) (cs := txC (likeD a p0 n0 q0 p1 n1 q1)) (t := 37) (by simp) 3 rfl
      have ka4 := H1.out.cell (b := b2) (cs := txC a) (t := 37) (by simp) 4 rfl
      have kb4 := H1.out.cell (b := b3) (cs := txC (likeD a p0 n0 q0 p1 n1 q1)) (t := 37) (by simp) 4 rfl
      have ka5 := H1.out.cell (b := b2) (cs := txC a) (t := 37) (by simp) 5 rfl
      have kb5 := H1.out.cell (b := b3) (cs := txC (likeD a p0 n0 q0 p1 n1 q1)) (t := 37) (by simp) 5 rfl
      have ka6 := H1.out.cell (b := b2) (cs := txC a) (t := 37) (by simp) 6 rfl
      have kb6 := H1.out.cell (b := b3) (cs := txC (likeD a p0 n0 q0 p1 n1 q1)) (t := 37) (by simp) 6 rfl
      have ka7 := H1.out.cell (b := b2) (cs := txC a) (t := 37) (by simp) 7 rfl
      have kb7 := H1.out.cell (b := b3) (cs := txC (likeD a p0 n0 q0 p1 n1 q1)) (t := 37) (by simp) 7 rfl
      have ka29 := H1.out.cell (b := b2) (cs := txC a) (t := 37) (by simp) 29 rfl
      have kb29 := H1.out.cell (b := b3) (cs := txC (likeD a p0 n0 q0 p1 n1 q1)) (t := 37) (by simp) 29 rfl
      have ka30 := H1.out.cell (b := b2) (cs := txC a) (t := 37) (by simp) 30 rfl
      have kb30 := H1.out.cell (b := b3) (cs := txC (likeD a p0 n0 q0 p1 n1 q1)) (t := 37) (by simp) 30 rfl
      have ka31 := H1.out.cell (b := b2) (cs := txC a) (t := 37) (by simp) 31 rfl
      have kb31 := H1.out.cell (b := b3) (cs := txC (likeD a p0 n0 q0 p1 n1 q1)) (t := 37) (by simp) 31 rfl
      have und := Try.underlying33
      have ep := fun W => eqPr a.ia a.xa a.ya a.ib a.xb a.yb a.ic a.xc a.yc W
      have ra := (H1.out.row (b := b2) (cs := txC a) (t := 37) (by simp)).part 20 [.bool a.ia, .int .u64 a.xa, .int .u64 a.ya, .bool a.ib, .int .u64 a.xb, .int .u64 a.yb, .bool a.ic, .int .u64 a.xc, .int .u64 a.yc] (fun j v hj => by
        match j, hj with
        | 0, hj | 1, hj | 2, hj | 3, hj | 4, hj | 5, hj | 6, hj | 7, hj | 8, hj => exact hj
        | n + 9, hj => simp at hj)
      have rb := (H1.out.row (b := b3) (cs := txC (likeD a p0 n0 q0 p1 n1 q1)) (t := 37) (by simp)).part 20 [.bool a.ia, .int .u64 a.xa, .int .u64 a.ya, .bool a.ib, .int .u64 a.xb, .int .u64 a.yb, .bool a.ic, .int .u64 a.xc, .int .u64 a.yc] (fun j v hj => by
        match j, hj with
        | 0, hj | 1, hj | 2, hj | 3, hj | 4, hj | 5, hj | 6, hj | 7, hj | 8, hj => exact hj
        | n + 9, hj => simp at hj)
      go_wp2_with (first | (refine wpList_loadm_on rfl _ _ rfl b2 20 rfl [.bool a.ia, .int .u64 a.xa, .int .u64 a.ya, .bool a.ib, .int .u64 a.xb, .int .u64 a.yb, .bool a.ic, .int .u64 a.xc, .int .u64 a.yc] _ ra und rfl sizPR ?_) | (refine wpList_loadm_on rfl _ _ rfl b3 20 rfl [.bool a.ia, .int .u64 a.xa, .int .u64 a.ya, .bool a.ib, .int .u64 a.xb, .int .u64 a.yb, .bool a.ic, .int .u64 a.xc, .int .u64 a.yc] _ rb und rfl sizPR ?_))
      go_ret
      exact ⟨by simp, H1.out.2⟩

end Go.Proofs.Ytkfimfjjmdjbdaa
