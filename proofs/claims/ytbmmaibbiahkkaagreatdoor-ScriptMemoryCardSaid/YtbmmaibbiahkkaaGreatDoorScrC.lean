/- What the library makes of digits: numbers printed and read. Conditions: none. -/
import Derived.Test.YtbmmaibbiahkkaaGreatDoorProg
import Derived.Test.YtbmmaibbiahkkaaGreatDoorScrB
import Derived.Test.YtbmmaibbiahkkaaGreatDoorSxSg
import Derived.Laws.Bits64b
namespace Go.Proofs.YtbmmaibbiahkkaaGreatDoor
open Go.Sx
set_option maxRecDepth 100000
set_option linter.unusedVariables false
set_option linter.unusedSimpArgs false
open Go.RowKit
def sx73 (i base : Int) (R : Ending → World → Prop) (w : World) : Prop :=
 ifB (base == 10) (ifB (decide (i < 100)) (Aa Tryz.prog 69 [.int .i64 (IntKind.i64.wrap i)] w (RetR R fun u2 w1 => ∃ s3, u2 = .string s3 ∧ R (.returned (.string s3)) w1)) (∀ b5 w6, Ar w w6 b5 (.cells [.int .u8 0, .int .u8 0, .int .u8 0, .int .u8 0, .int .u8 0, .int .u8 0, .int .u8 0, .int .u8 0, .int .u8 0, .int .u8 0, .int .u8 0, .int .u8 0, .int .u8 0, .int .u8 0, .int .u8 0, .int .u8 0, .int .u8 0, .int .u8 0, .int .u8 0, .int .u8 0, .int .u8 0, .int .u8 0, .int .u8 0, .int .u8 0].toArray 126) → Aa Tryz.prog 70 [.int .u64 i] w6 (RetR R fun u8 w7 => ∃ n9, u8 = .int .i64 n9 ∧ (0 ≤ n9 ∧ n9 ≤ (24 : Nat)) ∧ Aa Tryz.prog 71 [.slice (some ⟨b5, 0, none⟩) n9.toNat 24, .int .u64 i] w7 (RetR R fun u12 w11 => u12 = .tuple #[] ∧ (0 ≤ n9 ∧ n9 ≤ (24 : Nat)) ∧ SemW Tryz.prog (convert 39 9 (.slice (some ⟨b5, 0, none⟩) n9.toNat 24)) (fun u15 w14 => ∃ s16, u15 = .string s16 ∧ R (.returned (.string s16)) w14) w11)))) (Aa Tryz.prog 72 [.slice none 0 0, .int .u64 i, .int .i64 base, .bool false, .bool false] w (RetR R fun u18 w17 => ∃ a19 l19 c19 s20, u18 = .tuple #[.slice a19 l19 c19, .string s20] ∧ R (.returned (.string s20)) w17))
theorem sx73.ok {i base : Int} {R : Ending → World → Prop} {w : World} (h : sx73 i base R w) : Aa Tryz.prog 73 [.int .u64 i, .int .i64 base] w R :=
 okOf { sem := [24] } mix Tryz.func73 (by kernel_rfl) (by kernel_rfl) (by kernel_rfl) h
def sx72h (i : Int) (R : Ending → World → Prop) (w : World) : Prop :=
  ∀ b1 w2, Ar w w2 b1 (.cells [.int .u8 0, .int .u8 0, .int .u8 0, .int .u8 0, .int .u8 0, .int .u8 0, .int .u8 0, .int .u8 0, .int .u8 0, .int .u8 0, .int .u8 0, .int .u8 0, .int .u8 0, .int .u8 0, .int .u8 0, .int .u8 0, .int .u8 0, .int .u8 0, .int .u8 0, .int .u8 0, .int .u8 0, .int .u8 0, .int .u8 0, .int .u8 0, .int .u8 0, .int .u8 0, .int .u8 0, .int .u8 0, .int .u8 0, .int .u8 0, .int .u8 0, .int .u8 0, .int .u8 0, .int .u8 0, .int .u8 0, .int .u8 0, .int .u8 0, .int .u8 0, .int .u8 0, .int .u8 0, .int .u8 0, .int .u8 0, .int .u8 0, .int .u8 0, .int .u8 0, .int .u8 0, .int .u8 0, .int .u8 0, .int .u8 0, .int .u8 0, .int .u8 0, .int .u8 0, .int .u8 0, .int .u8 0, .int .u8 0, .int .u8 0, .int .u8 0, .int .u8 0, .int .u8 0, .int .u8 0, .int .u8 0, .int .u8 0, .int .u8 0, .int .u8 0, .int .u8 0].toArray 152) → ∃ J3 : Int → World → Prop, (ifB false (J3 (IntKind.u64.wrap (0 - i)) w2) (J3 i w2)) ∧ ∀ n4 w5, J3 n4 w5 → Aa Tryz.prog 97 [.int .i64 16] w5 (RetR R fun u7 w6 => ∃ b8, u7 = .bool b8 ∧ ifB b8 (Aa Tryz.prog 98 [.int .u64 (IntKind.u64.wrap 16)] w6 (RetR R fun u11 w10 => ∃ n12, u11 = .int .i64 n12 ∧ ∀ n14 : Int, n14 = IntKind.u64.wrap ((IntKind.u64.wrap 16) - 1) → ∃ (I15 : Int → Int → World → Prop) (m15 : Int → Int → World → Nat), I15 n4 65 w10 ∧ ∀ n16 n17 w18, I15 n16 n17 w18 → ifB (decide (n16 ≥ IntKind.u64.wrap 16)) (∃ (b19 : UInt8), (0 ≤ (Go.bits .and .u64 n16 n14) ∧ ((ByteArray.mk (#[48, 49, 50, 51, 52, 53, 54, 55, 56, 57, 97, 98, 99, 100, 101, 102, 103, 104, 105, 106, 107, 108, 109, 110, 111, 112, 113, 114, 115, 116, 117, 118, 119, 120, 121, 122]) : ByteArray)).data[(Go.bits .and .u64 n16 n14).toNat]? = some b19) ∧ (0 ≤ (IntKind.i64.wrap (n17 - 1)) ∧ (IntKind.i64.wrap (n17 - 1)) < (65 : Nat)) ∧ An w18 (Addr.add (⟨b1, 0, none⟩ : Addr) ((IntKind.i64.wrap (n17 - 1)).toNat * 1)) 0 [.int .u8 (b19.toNat : Int)] ∧ ∀ w20, w20 = setCells w18 (Addr.add (⟨b1, 0, none⟩ : Addr) ((IntKind.i64.wrap (n17 - 1)).toNat * 1)) 0 [.int .u8 (b19.toNat : Int)] → 0 ≤ (IntKind.u64.wrap n12) ∧ ∀ n21 : Int, n21 = Int.fdiv n16 (2 ^ (min (IntKind.u64.wrap n12).toNat (IntKind.bits .u64))) → (I15 n21 (IntKind.i64.wrap (n17 - 1)) w20 ∧ m15 n21 (IntKind.i64.wrap (n17 - 1)) w20 < m15 n16 n17 w18)) (∃ (b22 : UInt8), (0 ≤ n16 ∧ ((ByteArray.mk (#[48, 49, 50, 51, 52, 53, 54, 55, 56, 57, 97, 98, 99, 100, 101, 102, 103, 104, 105, 106, 107, 108, 109, 110, 111, 112, 113, 114, 115, 116, 117, 118, 119, 120, 121, 122]) : ByteArray)).data[n16.toNat]? = some b22) ∧ (0 ≤ (IntKind.i64.wrap (n17 - 1)) ∧ (IntKind.i64.wrap (n17 - 1)) < (65 : Nat)) ∧ An w18 (Addr.add (⟨b1, 0, none⟩ : Addr) ((IntKind.i64.wrap (n17 - 1)).toNat * 1)) 0 [.int .u8 (b22.toNat : Int)] ∧ ∀ w23, w23 = setCells w18 (Addr.add (⟨b1, 0, none⟩ : Addr) ((IntKind.i64.wrap (n17 - 1)).toNat * 1)) 0 [.int .u8 (b22.toNat : Int)] → ifB false (∀ n24 : Int, n24 = IntKind.i64.wrap ((IntKind.i64.wrap (n17 - 1)) - 1) → (0 ≤ n24 ∧ n24 < (65 : Nat)) ∧ An w23 (Addr.add (⟨b1, 0, none⟩ : Addr) (n24.toNat * 1)) 0 [.int
 .u8 45] ∧ ∀ w25, w25 = setCells w23 (Addr.add (⟨b1, 0, none⟩ : Addr) (n24.toNat * 1)) 0 [.int .u8 45] → ifB false ((0 ≤ n24 ∧ n24 ≤ (65 : Nat)) ∧ SemW Tryz.prog (Builtin.append_ #[39, 39] 39 #[.slice none 0 0, .slice (if 65 = n24.toNat then (some ⟨b1, 0, none⟩) else Option.map (fun x => Addr.add x (n24.toNat * 1)) (some ⟨b1, 0, none⟩)) (65 - n24.toNat) (65 - n24.toNat)]) (fun u27 w26 => ∃ a28 l28 c28, u27 = .slice a28 l28 c28 ∧ R (.returned (.tuple #[.slice a28 l28 c28, .string (ByteArray.mk (#[]) : ByteArray)])) w26) w25) ((0 ≤ n24 ∧ n24 ≤ (65 : Nat)) ∧ SemW Tryz.prog (convert 39 9 (.slice (if 65 = n24.toNat then (some ⟨b1, 0, none⟩) else Option.map (fun x => Addr.add x (n24.toNat * 1)) (some ⟨b1, 0, none⟩)) (65 - n24.toNat) (65 - n24.toNat))) (fun u30 w29 => ∃ s31, u30 = .string s31 ∧ R (.returned (.tuple #[.slice none 0 0, .string s31])) w29) w25)) (ifB false ((0 ≤ IntKind.i64.wrap (n17 - 1) ∧ IntKind.i64.wrap (n17 - 1) ≤ (65 : Nat)) ∧ SemW Tryz.prog (Builtin.append_ #[39, 39] 39 #[.slice none 0 0, .slice (if 65 = (IntKind.i64.wrap (n17 - 1)).toNat then (some ⟨b1, 0, none⟩) else Option.map (fun x => Addr.add x ((IntKind.i64.wrap (n17 - 1)).toNat * 1)) (some ⟨b1, 0, none⟩)) (65 - (IntKind.i64.wrap (n17 - 1)).toNat) (65 - (IntKind.i64.wrap (n17 - 1)).toNat)]) (fun u33 w32 => ∃ a34 l34 c34, u33 = .slice a34 l34 c34 ∧ R (.returned (.tuple #[.slice a34 l34 c34, .string (ByteArray.mk (#[]) : ByteArray)])) w32) w23) ((0 ≤ IntKind.i64.wrap (n17 - 1) ∧ IntKind.i64.wrap (n17 - 1) ≤ (65 : Nat)) ∧ SemW Tryz.prog (convert 39 9 (.slice (if 65 = (IntKind.i64.wrap (n17 - 1)).toNat then (some ⟨b1, 0, none⟩) else Option.map (fun x => Addr.add x ((IntKind.i64.wrap (n17 - 1)).toNat * 1)) (some ⟨b1, 0, none⟩)) (65 - (IntKind.i64.wrap (n17 - 1)).toNat) (65 - (IntKind.i64.wrap (n17 - 1)).toNat))) (fun u36 w35 => ∃ s37, u36 = .string s37 ∧ R (.returned (.tuple #[.slice none 0 0, .string s37])) w35) w23))))) (∃ (I38 : Int → Int → World → Prop) (m38 : Int → Int → World → Nat), I38 n4 65 w6 ∧ ∀ n39 n40 w41, I38 n39 n40 w41 → ifB (decide (n39 ≥ IntKind.u64.wrap 16)) ((((IntKind.u64.wrap 16) = 0 → R (.panicked (Nr Tryz.prog)) w41) ∧ ((IntKind.u64.wrap 16) ≠ 0 → ∀ n42 : Int, n42 = IntKind.u64.wrap (Int.tdiv n39 (IntKind.u64.wrap 16)) → ∀ n43 : Int, n43 = IntKind.u64.wrap (n42 * (IntKind.u64.wrap 16)) → ∀ n44 : Int, n44 = IntKind.u64.wrap (n39 - n43) → ∃ (b45 : UInt8), (0 ≤ n44 ∧ ((ByteArray.mk (#[48, 49, 50, 51, 52, 53, 54, 55, 56, 57, 97, 98, 99, 100, 101, 102, 103, 104, 105, 106, 107, 108, 109, 110, 111, 112, 113, 114, 115, 116, 117, 118, 119, 120, 121, 122]) : ByteArray)).data[n44.toNat]? = some b45) ∧ (0 ≤ (IntKind.i64.wrap (n40 - 1)) ∧ (IntKind.i64.wrap (n40 - 1)) < (65 : Nat)) ∧ An w41 (Addr.add (⟨b1, 0, none⟩ : Addr) ((IntKind.i64.wrap (n40 - 1)).toNat * 1)) 0 [.int .u8 (b45.toNat : Int)] ∧ ∀ w46, w46 = setCells w41 (Addr.add (⟨b1, 0, none⟩ : Addr) ((IntKind.i64.wrap (n40 - 1)).toNat * 1)) 0 [.int .u8 (b45.toNat : Int)] → (I38 n42 (IntKind.i64.wrap (n40 - 1))
 w46 ∧ m38 n42 (IntKind.i64.wrap (n40 - 1)) w46 < m38 n39 n40 w41)))) (∃ (b47 : UInt8), (0 ≤ n39 ∧ ((ByteArray.mk (#[48, 49, 50, 51, 52, 53, 54, 55, 56, 57, 97, 98, 99, 100, 101, 102, 103, 104, 105, 106, 107, 108, 109, 110, 111, 112, 113, 114, 115, 116, 117, 118, 119, 120, 121, 122]) : ByteArray)).data[n39.toNat]? = some b47) ∧ (0 ≤ (IntKind.i64.wrap (n40 - 1)) ∧ (IntKind.i64.wrap (n40 - 1)) < (65 : Nat)) ∧ An w41 (Addr.add (⟨b1, 0, none⟩ : Addr) ((IntKind.i64.wrap (n40 - 1)).toNat * 1)) 0 [.int .u8 (b47.toNat : Int)] ∧ ∀ w48, w48 = setCells w41 (Addr.add (⟨b1, 0, none⟩ : Addr) ((IntKind.i64.wrap (n40 - 1)).toNat * 1)) 0 [.int .u8 (b47.toNat : Int)] → ifB false (∀ n49 : Int, n49 = IntKind.i64.wrap ((IntKind.i64.wrap (n40 - 1)) - 1) → (0 ≤ n49 ∧ n49 < (65 : Nat)) ∧ An w48 (Addr.add (⟨b1, 0, none⟩ : Addr) (n49.toNat * 1)) 0 [.int .u8 45] ∧ ∀ w50, w50 = setCells w48 (Addr.add (⟨b1, 0, none⟩ : Addr) (n49.toNat * 1)) 0 [.int .u8 45] → ifB false ((0 ≤ n49 ∧ n49 ≤ (65 : Nat)) ∧ SemW Tryz.prog (Builtin.append_ #[39, 39] 39 #[.slice none 0 0, .slice (if 65 = n49.toNat then (some ⟨b1, 0, none⟩) else Option.map (fun x => Addr.add x (n49.toNat * 1)) (some ⟨b1, 0, none⟩)) (65 - n49.toNat) (65 - n49.toNat)]) (fun u52 w51 => ∃ a53 l53 c53, u52 = .slice a53 l53 c53 ∧ R (.returned (.tuple #[.slice a53 l53 c53, .string (ByteArray.mk (#[]) : ByteArray)])) w51) w50) ((0 ≤ n49 ∧ n49 ≤ (65 : Nat)) ∧ SemW Tryz.prog (convert 39 9 (.slice (if 65 = n49.toNat then (some ⟨b1, 0, none⟩) else Option.map (fun x => Addr.add x (n49.toNat * 1)) (some ⟨b1, 0, none⟩)) (65 - n49.toNat) (65 - n49.toNat))) (fun u55 w54 => ∃ s56, u55 = .string s56 ∧ R (.returned (.tuple #[.slice none 0 0, .string s56])) w54) w50)) (ifB false ((0 ≤ IntKind.i64.wrap (n40 - 1) ∧ IntKind.i64.wrap (n40 - 1) ≤ (65 : Nat)) ∧ SemW Tryz.prog (Builtin.append_ #[39, 39] 39 #[.slice none 0 0, .slice (if 65 = (IntKind.i64.wrap (n40 - 1)).toNat then (some ⟨b1, 0, none⟩) else Option.map (fun x => Addr.add x ((IntKind.i64.wrap (n40 - 1)).toNat * 1)) (some ⟨b1, 0, none⟩)) (65 - (IntKind.i64.wrap (n40 - 1)).toNat) (65 - (IntKind.i64.wrap (n40 - 1)).toNat)]) (fun u58 w57 => ∃ a59 l59 c59, u58 = .slice a59 l59 c59 ∧ R (.returned (.tuple #[.slice a59 l59 c59, .string (ByteArray.mk (#[]) : ByteArray)])) w57) w48) ((0 ≤ IntKind.i64.wrap (n40 - 1) ∧ IntKind.i64.wrap (n40 - 1) ≤ (65 : Nat)) ∧ SemW Tryz.prog (convert 39 9 (.slice (if 65 = (IntKind.i64.wrap (n40 - 1)).toNat then (some ⟨b1, 0, none⟩) else Option.map (fun x => Addr.add x ((IntKind.i64.wrap (n40 - 1)).toNat * 1)) (some ⟨b1, 0, none⟩)) (65 - (IntKind.i64.wrap (n40 - 1)).toNat) (65 - (IntKind.i64.wrap (n40 - 1)).toNat))) (fun u61 w60 => ∃ s62, u61 = .string s62 ∧ R (.returned (.tuple #[.slice none 0 0, .string s62])) w60) w48)))))
theorem sx72h.ok {i : Int} {R : Ending → World → Prop} {w : World} (h : sx72h i R w) : Aa Tryz.prog 72 [.slice none 0 0, .int .u64 i, .int .i64 16, .bool false, .bool false] w R :=
 okOf { known := [20, 23, 27], sem := [98, 101], named := [43, 57, 73, 78, 79, 91], loops := [(11, { slots := [(1, .int .u64), (13, .int .i64)], cells := [] }), (18, { slots := [(1, .int .u64), (13, .int .i64)], cells := [] })], cuts := [(7, { slots := [(1, .int .u64)], cells := [] })] } mix Tryz.func72 (by kernel_rfl) (by kernel_rfl) (by kernel_rfl) h
def sx52 (i base : Int) (R : Ending → World → Prop) (w : World) : Prop :=
 Aa Tryz.prog 73 [.int .u64 i, .int .i64 base] w (RetR R fun u2 w1 => ∃ s3, u2 = .string s3 ∧ R (.returned (.string s3)) w1)
theorem sx52.ok {i base : Int} {R : Ending → World → Prop} {w : World} (h : sx52 i base R w) : Aa Tryz.prog 52 [.int .u64 i, .int .i64 base] w R :=
 okOf {} mix Tryz.func52 (by kernel_rfl) (by kernel_rfl) (by kernel_rfl) h
def sx97 (x : Int) (R : Ending → World → Prop) (w : World) : Prop :=
 ∀ n1 : Int, n1 = Go.bits .and .i64 x (IntKind.i64.wrap (x - 1)) → R (.returned (.bool (n1 == 0))) w
theorem sx97.ok {x : Int} {R : Ending → World → Prop} {w : World} (h : sx97 x R w) : Aa Tryz.prog 97 [.int .i64 x] w R :=
 okOf { named := [6] } mix Tryz.func97 (by kernel_rfl) (by kernel_rfl) (by kernel_rfl) h
def sx98 (x : Int) (R : Ending → World → Prop) (w : World) : Prop :=
 Aa Tryz.prog 120 [.int .u64 x] w (RetR R fun u2 w1 => ∃ n3, u2 = .int .i64 n3 ∧ R (.returned (.int .i64 n3)) w1)
theorem sx98.ok {x : Int} {R : Ending → World → Prop} {w : World} (h : sx98 x R w) : Aa Tryz.prog 98 [.int .u64 x] w R :=
 okOf {} mix Tryz.func98 (by kernel_rfl) (by kernel_rfl) (by kernel_rfl) h
def sx120 (x : Int) (R : Ending → World → Prop) (w : World) : Prop :=
 ifB (x == 0) (R (.returned (.int .i64 64)) w) (∀ n1 : Int, n1 = Go.bits .and .u64 x (IntKind.u64.wrap (0 - x)) → ∀ n2 : Int, n2 = IntKind.u64.wrap (n1 * 285870213051353865) → 0 ≤ (58 : Int) ∧ ∀ n3 : Int, n3 = Int.fdiv n2 (2 ^ (min (58 : Int).toNat (IntKind.bits .u64))) → (0 ≤ n3 ∧ n3 < (64 : Nat)) ∧ ∃ n4, w.cell? (Addr.add (⟨8, 0, none⟩ : Addr) (n3.toNat * 1)) = some (.int .u8 n4) ∧ R (.returned (.int .i64 (IntKind.i64.wrap n4))) w)
theorem sx120.ok {x : Int} {R : Ending → World → Prop} {w : World} (h : sx120 x R w) : Aa Tryz.prog 120 [.int .u64 x] w R :=
 okOf { named := [8, 9, 10] } mix Tryz.func120 (by kernel_rfl) (by kernel_rfl) (by kernel_rfl) h
theorem entI {f : FuncId} {fn : Func} (h1 : Tryz.prog.funcs[f]? = some fn) (h2 : fn.body.isNone = false) (h3 : (fn.name == "runtime.NumGoroutine") = false) : Go.Sx.Enters Tryz.prog f := ⟨fn, h1, h2, h3⟩
structure Glob (w : World) : Prop where
 pow : Lib.TabIs Tryz.prog w "internal/strconv.uint64pow10" .u64 Lib.pow10Tab
 syn : ∃ t p, w.cell? ⟨5, 0, none⟩ = some (.iface t p)
 rng : ∃ t p, w.cell? ⟨6, 0, none⟩ = some (.iface t p)
 deb : w.cell? ⟨8, 15, none⟩ = some (.int .u8 4)
theorem Glob.grew {w w' : World} (h : Glob w) (hg : Grew w w') : Glob w' :=
 ⟨N7 hg h.pow, let ⟨t, p, e⟩ := h.syn; ⟨t, p, hg.cell e⟩, let ⟨t, p, e⟩ := h.rng; ⟨t, p, hg.cell e⟩, hg.cell h.deb⟩
theorem Glob.hid {w w₀ : World} (h : Glob w) (hw : Ae w w₀) : Glob w₀ :=
 ⟨M4 hw h.pow, let ⟨t, p, e⟩ := h.syn; ⟨t, p, (hw.cell e).1⟩, let ⟨t, p, e⟩ := h.rng; ⟨t, p, (hw.cell e).1⟩, (hw.cell h.deb).1⟩
theorem Hl {n : Int} {w : World} (hG : Glob w) (h : -9223372036854775808 ≤ n ∧ n ≤ 9223372036854775807) : Aa Tryz.prog 30 [.int .i64 n] w (Rets fun v w' => v = .string (bs (Lib.itoa n)) ∧ Grew w w') :=
 Aa.of_val (entI Tryz.func30 (by kernel_rfl) (by kernel_rfl)) fun w₀ hw => (Tryz.strconv_Itoa n h.1 h.2 w₀ (hG.hid hw).pow).mono fun e w' ⟨he, k, os, hw'⟩ => ⟨he, by rw [hw']; exact Hb _ _ _⟩
theorem Gm {n : Int} {w : World} (hG : Glob w) (h : -9223372036854775808 ≤ n ∧ n ≤ 9223372036854775807) : Aa Tryz.prog 33 [.int .i64 n, .int .i64 10] w (Rets fun v w' => v = .string (bs (Lib.itoa n)) ∧ Grew w w') :=
 Aa.of_val (entI Tryz.func33 (by kernel_rfl) (by kernel_rfl)) fun w₀ hw => (Tryz.strconv_FormatInt_10 n h.1 h.2 w₀ (hG.hid hw).pow).mono fun e w' ⟨he, k, os, hw'⟩ => ⟨he, by rw [hw']; exact Hb _ _ _⟩
theorem He (w : World) (e : TypeId) (s : ByteArray) : Below w.heap.size w (Lib.bytesWorld w e s) where
 os := rfl
 tape := rfl
 output := rfl
 size := by rw [Lib.bytesWorld_size]; omega
 block := fun k hk => Lib.bytesWorld_at_old w e s k hk
def Read (k : IntKind) (o : Option Int) (v : Value) : Prop := match o with
 | some n => v = .tuple #[.int k n, .nilIface]
 | none => ∃ n t p, v = .tuple #[.int k n, .iface t p]
theorem K8 {s : L8} {w : World} (hG : Glob w) (hs : s.length ≤ 281474976710656) : Aa Tryz.prog 62 [.string (bs s), .int .i64 10, .int .i64 64] w (Rets fun v w' => Read .i64 (Ei (Lib.parseIntB 64 s)) v ∧ Grew w w') := by
 refine Aa.of_pred (entI Tryz.func62 (by kernel_rfl) (by kernel_rfl)) fun w₀ hw => ?_
 have hG₀ := hG.hid hw
 cases h : Lib.parseIntB 64 s with
 | ok v => exact (Tryz.strconv_ParseInt_10_at64_ok (bs s) (by simp; omega) v (by simpa using h) w₀).mono fun e w' ⟨he, hw'⟩ => ⟨⟨_, he, rfl⟩, by
   rcases hw' with rfl | ⟨t, rfl⟩
   ·exact Below.refl _ _
   ·exact He _ _ _⟩
 | «syntax» =>
  obtain ⟨t, p, hc⟩ := hG₀.syn
  exact (Tryz.strconv_ParseInt_10_at64_syntax (bs s) (by simpa using hs) (by simpa using h) _ w₀ hc (.inr ⟨t, p, rfl⟩)).mono fun e w' ⟨N, he, _, _, hb⟩ => ⟨⟨_, he, _, _, _, rfl⟩, hb⟩
 | range =>
  obtain ⟨t, p, hc⟩ := hG₀.rng
  exact (Tryz.strconv_ParseInt_10_at64_range (bs s) (by simpa using hs) (by simpa using h) _ w₀ hc (.inr ⟨t, p, rfl⟩)).mono fun e w' ⟨N, he, _, _, hb⟩ => ⟨⟨_, he, _, _, _, rfl⟩, hb⟩
theorem Kb {s : L8} {w : World} (hG : Glob w) (hs : s.length ≤ 281474976710656) : Aa Tryz.prog 64 [.string (bs s), .int .i64 10, .int .i64 64] w (Rets fun v w' => Read .u64 ((Ei (Lib.parseUintB 64 s)).map fun (n : Nat) => (n : Int)) v ∧ Grew w w') := by
 refine Aa.of_pred (entI Tryz.func64 (by kernel_rfl) (by kernel_rfl)) fun w₀ hw => ?_
 have hG₀ := hG.hid hw
 cases h : Lib.parseUintB 64 s with
 | ok v => exact (Tryz.strconv_ParseUint_10_at64_ok (bs s) (by simp; omega) v (by simpa using h) w₀).mono fun e w' ⟨he, hw'⟩ => ⟨⟨_, he, rfl⟩, by
   rcases hw' with rfl | rfl
   ·exact Below.refl _ _
   ·exact He _ _ _⟩
 | «syntax» =>
  obtain ⟨t, p, hc⟩ := hG₀.syn
  exact (Tryz.strconv_ParseUint_10_at64_syntax (bs s) (by simpa using hs) (by simpa using h) _ w₀ hc (.inr ⟨t, p, rfl⟩)).mono fun e w' ⟨N, he, _, _, hb⟩ => ⟨⟨_, he, _, _, _, rfl⟩, hb⟩
 | range =>
  obtain ⟨t, p, hc⟩ := hG₀.rng
  exact (Tryz.strconv_ParseUint_10_at64_range (bs s) (by simpa using hs) (by simpa using h) _ w₀ hc (.inr ⟨t, p, rfl⟩)).mono fun e w' ⟨N, he, _, _, hb⟩ => ⟨⟨_, he, _, _, _, rfl⟩, hb⟩
theorem Qf {n : Nat} {w : World} (hG : Glob w) (h : n < 18446744073709551616) : Aa Tryz.prog 73 [.int .u64 (n : Int), .int .i64 10] w (Rets fun v w' => v = .string (bs (Lib.decDigits n)) ∧ Grew w w') := by
 refine sx73.ok ?_
 unfold sx73
 refine ⟨fun _ => ⟨fun hs => ?_, fun hs b5 w6 hal => ?_⟩, fun h => (by cases h)⟩
 ·simp only [decide_eq_true_eq] at hs
  have e : IntKind.i64.wrap (n : Int) = (n : Int) := by rw [IntKind.wrap_i64]; omega
  rw [e]
  refine (Aa.of_val (v := .string (bs (Lib.decDigits n))) (entI Tryz.func69 (by kernel_rfl) (by kernel_rfl)) fun w₀ hw => (Tryz.internal_strconv_small n (by omega) w₀).mono fun e w' ⟨he, hw'⟩ => ⟨he, hw' ▸ Below.refl _ _⟩).use fun v w1 ⟨hv, hg⟩ => ?_
  subst hv
  exact ⟨_, rfl, _, rfl, rfl, hg⟩
 ·simp only [decide_eq_false_iff_not] at hs
  have hd20 : Lib.nDigits n ≤ 20 := by
   have := (Lib.numDigits_eq n (by omega) h).1
   have h2 := (Lib.numDigits_eq n (by omega) h).2
   split at this <;> omega
  refine (Aa.of_val (v := .int .i64 (Lib.nDigits n)) (entI Tryz.func70 (by kernel_rfl) (by kernel_rfl)) fun w₀ hw => (Tryz.internal_strconv_numDigits n (by omega) h w₀ ((hG.grew hal.grew).hid hw).pow).mono fun e w' ⟨he, hw'⟩ => ⟨he, hw' ▸ Below.refl _ _⟩).use fun v w7 ⟨hv, hg7⟩ => ?_
  subst hv
  refine ⟨_, rfl, ⟨by omega, by omega⟩, ?_⟩
  have hrow : Row w7 b5 126 ((List.replicate 24 (0 : UInt8)).map fun c => .int .u8 (c.toNat : Int)) := Row.grew hal.at_ hg7
  have hdl := Lib.decDigits_length n
  rw [Int.toNat_natCast]
  refine Aa.use (Post := fun v w' => v = .tuple #[] ∧ Upd (fun k => k = b5) w7 w' ∧ ∃ cs : List Value, Row w' b5 126 cs ∧ cs.take (Lib.nDigits n) = (Lib.decDigits n).map (fun c => .int .u8 (c.toNat : Int))) ?_ ?_
  ·have hlt : b5 < w7.heap.size := hrow.lt
   refine .mk (.inl ⟨entI Tryz.func71 (by kernel_rfl) (by kernel_rfl), fun w₀ hw => ?_⟩)
   have hr₀ := hw.at hrow (by simp [hole])
   have hz : ∀ j, j < (Array.replicate (Lib.nDigits n) (0 : UInt8)).size → w₀.cell? ⟨b5, 0 + j, none⟩ = some (Value.int .u8 (((Array.replicate (Lib.nDigits n) (0 : UInt8))[j]!).toNat : Int)) ∧ w₀.frozen? ⟨b5, 0 + j, none⟩ = false := fun j hj => by
    have hj' : j < Lib.nDigits n := by simpa using hj
    constructor
    ·have hr' : Row w₀ b5 126 _ := hr₀
     rw [Nat.zero_add, hr'.cell, List.getElem?_map, List.getElem?_replicate, if_pos (by omega)]
     simp [hj']
    ·simp [World.frozen?, hr₀]
   have hc := Tryz.internal_strconv_formatBase10 b5 0 24 n (Array.replicate (Lib.nDigits n) 0) w₀ hz (by simpa using Lib.lt_pow_nDigits n) h (by simp; omega)
   simp only [Array.size_replicate] at hc
   refine hc.mono ?_
   rintro e w' ⟨he, k, v', dk, hw', hI⟩
   have hds : dk.size = Lib.nDigits n := hI.size
   have hdk : dk.toList = Lib.decDigits n := by
    rw [Lib.decDigits_eq]
    apply List.ext_getElem?
    intro i
    rw [List.getElem?_map, Array.getElem?_toList]
    by_cases hi : i < Lib.nDigits n
    ·rw [List.getElem?_range hi, Array.getElem?_eq_getElem (by omega)]
     have := hI.done i (Nat.zero_le _) hi
     simp only [Option.map_some]
     rw [← this]; simp [show i < dk.size from by omega]
    ·rw [List.getElem?_eq_none (by simpa using Nat.le_of_not_lt hi), Array.getElem?_eq_none (by omega)]; rfl
   have hsz : w'.heap.size = w₀.heap.size := by rw [hw']; simp [World.drewN, Sort.putRow, Sort.mapBlock]
   have hold : ∀ k : Nat, k ≠ b5 → w'.heap[k]? = w₀.heap[k]? := fun k hk => by
    rw [hw']
    simp only [World.drewN, Sort.putRow, Sort.mapBlock, Array.getElem?_modify, if_neg (fun e : b5 = k => hk e.symm)]
   have hnew : w'.heap[b5]? = some (.cells (Sort.putCells (fun (b : UInt8) => Value.int .u8 (b.toNat : Int)) 0 dk (((List.replicate 24 (0 : UInt8)).map fun c => .int .u8 (c.toNat : Int)).toArray)) 126 (0, 0)) := by
    rw [hw']
    simp only [World.drewN, Sort.putRow, Sort.mapBlock, Array.getElem?_modify, if_true, hr₀, Option.map_some]
    rfl
   have hle : w7.heap.size ≤ w'.heap.size := by rw [hsz, hw.size]; exact Nat.le_refl _
   have hnh : w7.heap[b5]? ≠ some hole := by rw [hrow]; simp [hole]
   refine ⟨A6 w7 w', Cv hle, Dd hle (fun k hk => hold k fun e => hnh (e ▸ hk)), _, he, rfl, ⟨?_, ?_, ?_, by simp [A6]; exact hle, fun k hk hne => ?_⟩, (Sort.putCells (fun (b : UInt8) => Value.int .u8 (b.toNat : Int)) 0 dk (((List.replicate 24 (0 : UInt8)).map fun c => .int .u8 (c.toNat : Int)).toArray)).toList, ?_, ?_⟩
   ·show w'.os = w7.os; rw [hw', hw.os]; rfl
   ·show w'.tape = w7.tape; rw [hw', hw.tape]; rfl
   ·show w'.output = w7.output; rw [hw', hw.output]; rfl
   ·by_cases hh : w7.heap[k]? = some hole
    ·rw [Bi hh hle, hh]
    ·rw [A0 hh, hold k hne]
     rcases hw.block k with e | e
     ·exact e.symm
     ·exact absurd e hh
   ·show (A6 w7 w').heap[b5]? = _
    rw [A0 hnh, hnew]
   ·rw [← hdk]
    apply List.ext_getElem?
    intro i
    rw [List.getElem?_take, List.getElem?_map, Array.getElem?_toList, Array.getElem?_toList]
    by_cases hi : i < Lib.nDigits n
    ·rw [if_pos hi, Array.getElem?_eq_getElem (show i < dk.size by omega)]
     unfold Sort.putCells
     rw [Array.getElem?_mapIdx, List.getElem?_toArray, List.getElem?_map, List.getElem?_replicate, if_pos (by omega)]
     simp [show i < dk.size by omega]
    ·rw [if_neg hi, Array.getElem?_eq_none (by omega)]; rfl
  ·rintro v w11 ⟨hv, hu, cs, hr, hcs⟩
   refine ⟨hv, ⟨by omega, by omega⟩, ?_⟩
   have hg : Grew w w11 := (hal.grew.trans hg7).then_own hu fun k hk => by subst hk; exact hal.new
   have hrd : Reads w11 (Enc.int .u8) (some ⟨b5, 0, none⟩, Lib.nDigits n, 24) (ints (Lib.decDigits n)) := by
    refine ⟨fun i x hx => ⟨_, rfl, ?_⟩, by simp [hdl], fun e => (by cases e), by show Lib.nDigits n ≤ 24; omega⟩
    obtain ⟨c, hc, rfl⟩ := Ih hx
    have hi : i < Lib.nDigits n := by rw [← hdl]; exact (List.getElem?_eq_some_iff.1 hc).1
    have := congrArg (fun l => l[i]?) hcs
    simp only [List.getElem?_take, if_pos hi, List.getElem?_map, hc, Option.map_some] at this
    simp only [Enc.int, Ah, and_true, Bj, Nat.mul_one, Nat.zero_add, Nat.add_zero]
    rw [hr.cell]; exact this
   refine Ks uBy uU8 uSt hrd ⟨_, rfl, _, rfl, ?_, hg⟩
   rw [Jh]
theorem Pp {w : World} : Aa Tryz.prog 97 [.int .i64 16] w (Rets fun v w' => v = .bool true ∧ w' = w) := by
 refine sx97.ok ?_
 unfold sx97
 rintro n rfl
 exact ⟨_, rfl, by kernel_rfl, rfl⟩
theorem Pq {w : World} (hG : w.cell? ⟨8, 15, none⟩ = some (.int .u8 4)) : Aa Tryz.prog 120 [.int .u64 16] w (Rets fun v w' => v = .int .i64 4 ∧ w' = w) := by
 refine sx120.ok ?_
 unfold sx120
 refine ⟨fun h => (by cases h), fun _ => ?_⟩
 rintro n1 rfl n2 rfl
 refine ⟨by decide, ?_⟩
 rintro n3 rfl
 have e : Int.fdiv (IntKind.u64.wrap (Go.bits .and .u64 16 (IntKind.u64.wrap (0 - 16)) * 285870213051353865)) (2 ^ (min (58 : Int).toNat (IntKind.bits .u64))) = 15 := by decide +kernel
 rw [e]
 refine ⟨by decide, _, by rw [Bj]; exact hG, _, rfl, by kernel_rfl, rfl⟩
theorem Qp {w : World} (hG : w.cell? ⟨8, 15, none⟩ = some (.int .u8 4)) : Aa Tryz.prog 98 [.int .u64 16] w (Rets fun v w' => v = .int .i64 4 ∧ w' = w) := by
 refine sx98.ok ?_
 unfold sx98
 refine (Pq hG).use fun v w1 ⟨hv, hw⟩ => ?_
 subst hv; subst hw
 exact ⟨_, rfl, _, rfl, rfl, rfl⟩
def Mr : L8 := [48, 49, 50, 51, 52, 53, 54, 55, 56, 57, 97, 98, 99, 100, 101, 102, 103, 104, 105, 106, 107, 108, 109, 110, 111, 112, 113, 114, 115, 116, 117, 118, 119, 120, 121, 122]
theorem Js (d : Nat) (h : d < 16) : Mr[d]? = some (hexc d) := by
 have : ∀ i : Fin 16, Mr[i.val]? = some (hexc i.val) := by decide +kernel
 exact this ⟨d, h⟩
theorem Na {n : Nat} {w : World} (hG : Glob w) (h : n < 18446744073709551616) : Aa Tryz.prog 72 [.slice none 0 0, .int .u64 (n : Int), .int .i64 16, .bool false, .bool false] w (Rets fun v w' => v = .tuple #[.slice none 0 0, .string (bs (hexm n))] ∧ Grew w w') := by
 refine sx72h.ok ?_
 unfold sx72h
 intro b1 w2 hal
 refine ⟨fun u w' => u = (n : Int) ∧ w' = w2, ⟨fun h => (by cases h), fun _ => ⟨rfl, rfl⟩⟩, ?_⟩
 rintro n4 w5 ⟨rfl, rfl⟩
 refine Pp.use fun v w3 ⟨hv, hw⟩ => ?_
 subst hv; subst hw
 have w16 : IntKind.u64.wrap 16 = 16 := by decide
 rw [w16]
 refine ⟨_, rfl, fun _ => (Qp (hal.grew.cell hG.deb)).use fun v w7 ⟨hv, hw⟩ => ?_, fun h => (by cases h)⟩
 subst hv; subst hw
 refine ⟨_, rfl, ?_⟩
 rintro n11 rfl
 have e15 : IntKind.u64.wrap (16 - 1) = 15 := by decide
 rw [e15]
 refine ⟨fun u i w' => ∃ (k t : Nat) (cs : List Value), u = k ∧ i = ((65 - t : Nat) : Int) ∧ t ≤ 15 ∧ k < 16 ^ (16 - t) ∧ Row w' b1 152 cs ∧ cs.length = 65 ∧ (∃ tl : L8, tl.length = t ∧ hexm n = hexm k ++ tl ∧ cs.drop (65 - t) = tl.map fun c => .int .u8 (c.toNat : Int)) ∧ Upd (fun b => b = b1) w7 w', fun u _ _ => u.toNat,
  ⟨n, 0, _, rfl, rfl, by omega, by simpa using h, hal.at_, rfl, ⟨[], rfl, by simp, rfl⟩, Upd.refl _ _⟩, ?_⟩
 rintro u i w15 ⟨k, t, cs, rfl, rfl, ht, hk, hr, hcl, ⟨tl, htl, hm, hcs⟩, hu⟩
 have ei : IntKind.i64.wrap (((65 - t : Nat) : Int) - 1) = ((64 - t : Nat) : Int) := by rw [IntKind.wrap_i64]; omega
 have e1 : (64 - t : Nat) + 1 = 65 - t := by omega
 rw [ei, Bj, Int.toNat_natCast, Nat.mul_one, Nat.zero_add]
 have hk64 : k < 18446744073709551616 := Nat.lt_of_lt_of_le hk (by
  have : (16 : Nat) ^ (16 - t) ≤ 16 ^ 16 := Nat.pow_le_pow_right (by decide) (by omega)
  simpa using this)
 have hset : ∀ c : UInt8, (cs.set (64 - t) (.int .u8 (c.toNat : Int))).drop (64 - t) = (c :: tl).map fun c => .int .u8 (c.toNat : Int) := fun c => by
  rw [List.drop_set, if_neg (by omega), Nat.sub_self, List.map_cons]
  have : cs.drop (64 - t) = cs[64 - t] :: cs.drop (65 - t) := by rw [List.drop_eq_getElem_cons (by omega), e1]
  rw [this, List.set_cons_zero, hcs]
 refine ⟨fun hge => ?_, fun hlt => ?_⟩
 ·simp only [decide_eq_true_eq] at hge
  have hb : Go.bits .and .u64 (k : Int) 15 = ((k % 16 : Nat) : Int) := by
   have := bits_and_u64_nat k 15 hk64 (by decide)
   rw [show ((15 : Nat) : Int) = 15 from rfl] at this
   rw [this, Nat.and_two_pow_sub_one_eq_mod k 4]
  rw [hb]
  have ht14 : t ≤ 14 := by
   rcases Nat.lt_or_ge 14 t with h' | h'
   ·have : t = 15 := by omega
    subst this
    simp at hk; omega
   ·exact h'
  obtain ⟨r1, r2, r3⟩ := hr.set1 (o := 64 - t) (by omega) (.int .u8 ((hexc (k % 16)).toNat : Int))
  refine ⟨hexc (k % 16), ⟨by omega, ?_⟩, ⟨by omega, by omega⟩, r1, ?_⟩
  ·rw [Int.toNat_natCast]
   exact (N4 Mr _).trans (Js _ (by omega))
  rintro w17 rfl
  have e4 : IntKind.u64.wrap 4 = 4 := by decide
  rw [e4]
  refine ⟨by decide, ?_⟩
  rintro n18 rfl
  have ed : Int.fdiv (k : Int) (2 ^ (min (4 : Int).toNat (IntKind.bits .u64))) = ((k / 16 : Nat) : Int) := by
   have : (2 : Int) ^ (min (4 : Int).toNat (IntKind.bits .u64)) = 16 := by decide
   rw [this, Int.fdiv_eq_ediv_of_nonneg _ (by decide)]; omega
  rw [ed]
  refine ⟨⟨k / 16, t + 1, _, rfl, by congr 1; omega, by omega, ?_, r2, by simp [hcl], ⟨hexc (k % 16) :: tl, by simp [htl], ?_, ?_⟩, hu.trans r3⟩, by simp only [Int.toNat_natCast]; omega⟩
  ·have : 16 ^ (16 - t) = 16 ^ (16 - (t + 1)) * 16 := by rw [← Nat.pow_succ]; congr 1; omega
   rw [this] at hk
   exact Nat.div_lt_of_lt_mul (by rw [Nat.mul_comm]; exact hk)
  ·rw [hm, Kx (u := k) (by omega)]; simp
  ·rw [show 65 - (t + 1) = 64 - t from by omega]; exact hset _
 ·simp only [decide_eq_false_iff_not] at hlt
  have hk16 : k < 16 := by omega
  obtain ⟨r1, r2, r3⟩ := hr.set1 (o := 64 - t) (by omega) (.int .u8 ((hexc k).toNat : Int))
  refine ⟨hexc k, ⟨by omega, ?_⟩, ⟨by omega, by omega⟩, r1, ?_⟩
  ·rw [Int.toNat_natCast]
   exact (N4 Mr _).trans (Js _ hk16)
  rintro w20 rfl
  refine ⟨fun h => (by cases h), fun _ => ⟨fun h => (by cases h), fun _ => ⟨⟨by omega, by omega⟩, ?_⟩⟩⟩
  have hne : ¬ (65 = 64 - t) := by omega
  rw [if_neg hne]
  simp only [Option.map_some, Bj, Nat.mul_one, Nat.zero_add]
  have hrow := hset (hexc k)
  have hrd : Reads (setCells w15 ⟨b1, 64 - t, none⟩ 0 [.int .u8 ((hexc k).toNat : Int)]) (Enc.int .u8) (some ⟨b1, 64 - t, none⟩, 65 - (64 - t), 65 - (64 - t)) (ints (hexc k :: tl)) := by
   refine ⟨fun i x hx => ⟨_, rfl, ?_⟩, by simp [htl]; omega, fun e => (by cases e), Nat.le_refl _⟩
   obtain ⟨c, hc, rfl⟩ := Ih hx
   have := congrArg (fun l => l[i]?) hrow
   simp only [List.getElem?_drop, List.getElem?_map, hc, Option.map_some] at this
   simp only [Enc.int, Ah, and_true, Bj, Nat.mul_one, Nat.add_zero]
   rw [r2.cell]; exact this
  refine Ks uBy uU8 uSt hrd ⟨_, rfl, _, rfl, ?_, (hal.grew.then_own (hu.trans r3) fun b hb => by subst hb; exact hal.new)⟩
  rw [Jh, hm, Fz hk16]; rfl
theorem Ej {n : Nat} {w : World} (hG : Glob w) (h : n < 18446744073709551616) : Aa Tryz.prog 52 [.int .u64 (n : Int), .int .i64 10] w (Rets fun v w' => v = .string (bs (Lib.decDigits n)) ∧ Grew w w') := by
 refine sx52.ok ?_
 unfold sx52
 refine (Qf hG h).use fun v w1 ⟨hv, hg⟩ => ?_
 subst hv
 exact ⟨_, rfl, _, rfl, rfl, hg⟩
theorem Hf {n : Nat} {w : World} (hG : Glob w) (h : n < 18446744073709551616) : Aa Tryz.prog 52 [.int .u64 (n : Int), .int .i64 16] w (Rets fun v w' => v = .string (bs (hexm n)) ∧ Grew w w') := by
 refine sx52.ok ?_
 unfold sx52
 have : Aa Tryz.prog 73 [.int .u64 (n : Int), .int .i64 16] w (Rets fun v w' => v = .string (bs (hexm n)) ∧ Grew w w') := by
  refine sx73.ok ?_
  unfold sx73
  refine ⟨fun h => (by cases h), fun _ => (Na hG h).use fun v w1 ⟨hv, hg⟩ => ?_⟩
  subst hv
  exact ⟨_, _, _, _, rfl, _, rfl, rfl, hg⟩
 refine this.use fun v w1 ⟨hv, hg⟩ => ?_
 subst hv
 exact ⟨_, rfl, _, rfl, rfl, hg⟩
end Go.Proofs.YtbmmaibbiahkkaaGreatDoor
