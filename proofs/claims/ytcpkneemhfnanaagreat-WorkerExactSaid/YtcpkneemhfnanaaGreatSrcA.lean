/- What a source's methods hand back. Conditions: none. -/
import Derived.Test.YtcpkneemhfnanaaGreatProg
import Derived.Test.YtcpkneemhfnanaaGreatOps
import Derived.Test.YtcpkneemhfnanaaGreatSortE_U
import Derived.Test.YtcpkneemhfnanaaGreatSxSr
namespace Go.Proofs.YtcpkneemhfnanaaGreat
open Go.Sx
set_option maxRecDepth 100000
set_option linter.unusedVariables false
set_option linter.unusedSimpArgs false
def sx39 (s : Option Addr) (s_n s_c : Nat) (R : Ending → World → Prop) (w : World) : Prop :=
 ifB (Option.isNone s) (R (.returned (.slice none 0 0)) w) (∀ b1 w2, Ag w w2 b1 (.cells #[] 79) → SemW Tryz.prog (Builtin.append_ #[22, 22] 22 #[.slice (some ⟨b1, 0, none⟩) 0 0, .slice s s_n s_c]) (fun u4 w3 => ∃ a5 l5 c5, u4 = .slice a5 l5 c5 ∧ R (.returned (.slice a5 l5 c5)) w3) w2)
theorem sx39.ok {s : Option Addr} {s_n s_c : Nat} {R : Ending → World → Prop} {w : World} (h : sx39 s s_n s_c R w) : Aa Tryz.prog 39 [.slice s s_n s_c] w R :=
 okOf { sem := [7] } mix Tryz.func39 (by kernel_rfl) (by kernel_rfl) (by kernel_rfl) h
def sx137 (s : Option Addr) (s_n s_c : Nat) (R : Ending → World → Prop) (w : World) : Prop :=
 ifB (Option.isNone s) (R (.returned (.slice none 0 0)) w) (∀ b1 w2, Ag w w2 b1 (.cells #[] 43) → SemW Tryz.prog (Builtin.append_ #[62, 62] 62 #[.slice (some ⟨b1, 0, none⟩) 0 0, .slice s s_n s_c]) (fun u4 w3 => ∃ a5 l5 c5, u4 = .slice a5 l5 c5 ∧ R (.returned (.slice a5 l5 c5)) w3) w2)
theorem sx137.ok {s : Option Addr} {s_n s_c : Nat} {R : Ending → World → Prop} {w : World} (h : sx137 s s_n s_c R w) : Aa Tryz.prog 137 [.slice s s_n s_c] w R :=
 okOf { sem := [7] } mix Tryz.func137 (by kernel_rfl) (by kernel_rfl) (by kernel_rfl) h
def sx11 (parts : Int) (list : Option Addr) (list_n list_c : Nat) (R : Ending → World → Prop) (w : World) : Prop :=
  ifB (decide (parts < 1)) (R (.returned (.tuple #[.pointer none, .int .i64 1])) w) (ifB (decide (parts > 4)) (R (.returned (.tuple #[.pointer none, .int .i64 1])) w) (Aa Tryz.prog 42 [.slice list list_n list_c] w (RetR R fun u2 w1 => ∃ n3, u2 = .int .i64 n3 ∧ ifB (n3 != 0) (R (.returned (.tuple #[.pointer none, .int .i64 n3])) w1) (∀ w5, Grew w1 w5 → ((SemW Tryz.prog (Instr.makeSlice 109 (.int .i64 parts) (.int .i64 parts)) (fun u7 w6 => ∃ a8 l8 c8, u7 = .slice a8 l8 c8 ∧ Ad w5 w6 [] ∧ ((Aa Tryz.prog 39 [.slice list list_n list_c] w6 (RetR R fun u10 w9 => ∃ a11 l11 c11, u10 = .slice a11 l11 c11 ∧ Ad w6 w9 [] ∧ SemW Tryz.prog (Instr.makeMap 110 none) (fun u14 w13 => ∃ m15, u14 = .map m15 ∧ Ad w9 w13 [] ∧ ∀ b16 w17, Ag w13 w17 b16 (.cells [.slice a8 l8 c8, .slice a11 l11 c11, .map m15].toArray 112) → Ad w13 w17 [] ∧ R (.returned (.tuple #[.pointer (some ⟨b16, 0, none⟩), .int .i64 0])) w17) w9)) ∧ (SemW Tryz.prog (Instr.makeMap 110 none) (fun u19 w18 => ∃ m20, u19 = .map m20 ∧ Ad w6 w18 [] ∧ Aa Tryz.prog 39 [.slice list list_n list_c] w18 (RetR R fun u22 w21 => ∃ a23 l23 c23, u22 = .slice a23 l23 c23 ∧ Ad w18 w21 [] ∧ ∀ b25 w26, Ag w21 w26 b25 (.cells [.slice a8 l8 c8, .slice a23 l23 c23, .map m20].toArray 112) → Ad w21 w26 [] ∧ R (.returned (.tuple #[.pointer (some ⟨b25, 0, none⟩), .int .i64 0])) w26)) w6))) w5) ∧ (((Aa Tryz.prog 39 [.slice list list_n list_c] w5 (RetR R fun u28 w27 => ∃ a29 l29 c29, u28 = .slice a29 l29 c29 ∧ Ad w5 w27 [] ∧ ((SemW Tryz.prog (Instr.makeSlice 109 (.int .i64 parts) (.int .i64 parts)) (fun u32 w31 => ∃ a33 l33 c33, u32 = .slice a33 l33 c33 ∧ Ad w27 w31 [] ∧ SemW Tryz.prog (Instr.makeMap 110 none) (fun u35 w34 => ∃ m36, u35 = .map m36 ∧ Ad w31 w34 [] ∧ ∀ b37 w38, Ag w34 w38 b37 (.cells [.slice a33 l33 c33, .slice a29 l29 c29, .map m36].toArray 112) → Ad w34 w38 [] ∧ R (.returned (.tuple #[.pointer (some ⟨b37, 0, none⟩), .int .i64 0])) w38) w31) w27) ∧ (SemW Tryz.prog (Instr.makeMap 110 none) (fun u40 w39 => ∃ m41, u40 = .map m41 ∧ Ad w27 w39 [] ∧ SemW Tryz.prog (Instr.makeSlice 109 (.int .i64 parts) (.int .i64 parts)) (fun u43 w42 => ∃ a44 l44 c44, u43 = .slice a44 l44 c44 ∧ Ad w39 w42 [] ∧ ∀ b45 w46, Ag w42 w46 b45 (.cells [.slice a44 l44 c44, .slice a29 l29 c29, .map m41].toArray 112) → Ad w42 w46 [] ∧ R (.returned (.tuple #[.pointer (some ⟨b45, 0, none⟩), .int .i64 0])) w46) w39) w27)))) ∧ (SemW Tryz.prog (Instr.makeMap 110 none) (fun u48 w47 => ∃ m49, u48 = .map m49 ∧ Ad w5 w47 [] ∧ ((SemW Tryz.prog (Instr.makeSlice 109 (.int .i64 parts) (.int .i64 parts)) (fun u51 w50 => ∃ a52 l52 c52, u51 = .slice a52 l52 c52 ∧ Ad w47 w50 [] ∧ Aa Tryz.prog 39 [.slice list list_n list_c] w50 (RetR R fun u54 w53 => ∃ a55 l55 c55, u54 = .slice a55 l55 c55 ∧ Ad w50 w53 [] ∧ ∀ b57 w58, Ag w53 w58 b57 (.cells [.slice a52 l52 c52, .slice a55 l55 c55, .map m49].toArray 112) → Ad w53 w58 [] ∧ R (.returned (.tuple #[.pointer (some ⟨b57, 0, none⟩), .int .i64 0])) w58))
 w47) ∧ (Aa Tryz.prog 39 [.slice list list_n list_c] w47 (RetR R fun u60 w59 => ∃ a61 l61 c61, u60 = .slice a61 l61 c61 ∧ Ad w47 w59 [] ∧ SemW Tryz.prog (Instr.makeSlice 109 (.int .i64 parts) (.int .i64 parts)) (fun u64 w63 => ∃ a65 l65 c65, u64 = .slice a65 l65 c65 ∧ Ad w59 w63 [] ∧ ∀ b66 w67, Ag w63 w67 b66 (.cells [.slice a65 l65 c65, .slice a61 l61 c61, .map m49].toArray 112) → Ad w63 w67 [] ∧ R (.returned (.tuple #[.pointer (some ⟨b66, 0, none⟩), .int .i64 0])) w67) w59)))) w5))))))))
theorem sx11.ok {parts : Int} {list : Option Addr} {list_n list_c : Nat} {R : Ending → World → Prop} {w : World} (h : sx11 parts list list_n list_c R w) : Aa Tryz.prog 11 [.int .i64 parts, .slice list list_n list_c] w R :=
 okOf { sem := [19, 22], draws := [(6, { order := (ol [0,2] (.alt (ol [1] (.alt (ol [3,4,5,6,7,8] .nil) (ol [4,3,5,6,7,8] .nil))) (.alt (ol [3] (.alt (ol [1,4,5,6,7,8] .nil) (ol [4,1,5,6,7,8] .nil))) (ol [4] (.alt (ol [1,3,5,6,7,8] .nil) (ol [3,1,5,6,7,8] .nil)))))), bars := [] })] } mix Tryz.func11 (by kernel_rfl) (by kernel_rfl) (by kernel_rfl) h
def sx52 (s : Nat) (p : Int) (R : Ending → World → Prop) (w : World) : Prop :=
 ifB (decide (p < 0)) (R (.returned (.tuple #[.pointer none, .int .i64 60])) w) (∃ a1 l1 c1, w.cell? ⟨s, 0, none⟩ = some (.slice a1 l1 c1) ∧ ifB (decide (p ≥ ((l1 : Nat) : Int))) (R (.returned (.tuple #[.pointer none, .int .i64 60])) w) (∃ a2 l2 c2, w.cell? ⟨s, 0, none⟩ = some (.slice a2 l2 c2) ∧ Ab a2 (fun d3 => (0 ≤ p ∧ p < (l2 : Nat)) ∧ R (.returned (.tuple #[.pointer (some (Addr.add d3 (p.toNat * 2))), .int .i64 0])) w)))
theorem sx52.ok {s : Nat} {p : Int} {R : Ending → World → Prop} {w : World} (h : sx52 s p R w) : Aa Tryz.prog 52 [.pointer (some ⟨s, 0, none⟩), .int .i64 p] w R :=
 okOf { known := [8] } mix Tryz.func52 (by kernel_rfl) (by kernel_rfl) (by kernel_rfl) h
def sx16 (d : Nat) (i p2_0 : Int) (p2_1 : Nat) (R : Ending → World → Prop) (w : World) : Prop :=
 ∀ w1, Grew w w1 → Aa Tryz.prog 52 [.pointer (some ⟨d, 0, none⟩), .int .i64 i] w1 (RetR R fun u3 w2 => ∃ p4 n5, u3 = .tuple #[.pointer p4, .int .i64 n5] ∧ ifB (n5 != 0) (R (.returned (.int .i64 n5)) w2) (Ab p4 (fun d7 => ∃ a8 l8 c8, w2.cell? d7 = some (.slice a8 l8 c8) ∧ ifB (decide (((l8 : Nat) : Int) ≥ 256)) (R (.returned (.int .i64 61)) w2) (∀ w9, Grew w2 w9 → ∃ a10 l10 c10, w9.cell? ⟨d, 1, none⟩ = some (.slice a10 l10 c10) ∧ Aa Tryz.prog 53 [.slice a10 l10 c10, .agg #[.int .u64 p2_0, .float .f64 p2_1]] w9 (RetR R fun u12 w11 => ∃ n13 b14, u12 = .tuple #[.int .u64 n13, .bool b14] ∧ ifB b14 (∃ m16, w11.cell? ⟨d, 2, none⟩ = some (.map m16) ∧ SemW Tryz.prog (Instr.lookup 110 (.map m16) (.int .u64 n13) true) (fun u18 w17 => ∃ b19, u18 = .tuple #[.agg #[], .bool b19] ∧ ∀ w20, Grew w17 w20 → ifB (!b19) (∃ m21, w20.cell? ⟨d, 2, none⟩ = some (.map m21) ∧ SemW Tryz.prog (Builtin.len_ #[110] 3 #[.map m21]) (fun u23 w22 => ∃ n24, u23 = .int .i64 n24 ∧ ifB (decide (n24 ≥ 64)) (R (.returned (.int .i64 62)) w22) (∃ m25, w22.cell? ⟨d, 2, none⟩ = some (.map m25) ∧ SemW Tryz.prog (Instr.mapUpdate 110 (.map m25) (.int .u64 n13) (.agg #[])) (fun _ w26 => ∀ w27, Grew w26 w27 → Ab p4 (fun d28 => ∃ a29 l29 c29, w27.cell? d28 = some (.slice a29 l29 c29) ∧ ∀ b30 w31, Ag w27 w31 b30 (.cells #[.int .u64 p2_0, .float .f64 p2_1] 43) → Ad w27 w31 [d28] ∧ SemW Tryz.prog (Builtin.append_ #[62, 62] 62 #[.slice a29 l29 c29, .slice (some ⟨b30, 0, none⟩) 1 1]) (fun u33 w32 => ∃ a34 l34 c34, u33 = .slice a34 l34 c34 ∧ Ab p4 (fun d35 => Af w32 d35 0 [.slice a34 l34 c34] ∧ ∀ w36, w36 = setCells w32 d35 0 [.slice a34 l34 c34] → R (.returned (.int .i64 0)) w36)) w31)) w22)) w20) (∃ m37, w20.cell? ⟨d, 2, none⟩ = some (.map m37) ∧ SemW Tryz.prog (Instr.mapUpdate 110 (.map m37) (.int .u64 n13) (.agg #[])) (fun _ w38 => ∀ w39, Grew w38 w39 → Ab p4 (fun d40 => ∃ a41 l41 c41, w39.cell? d40 = some (.slice a41 l41 c41) ∧ ∀ b42 w43, Ag w39 w43 b42 (.cells #[.int .u64 p2_0, .float .f64 p2_1] 43) → Ad w39 w43 [d40] ∧ SemW Tryz.prog (Builtin.append_ #[62, 62] 62 #[.slice a41 l41 c41, .slice (some ⟨b42, 0, none⟩) 1 1]) (fun u45 w44 => ∃ a46 l46 c46, u45 = .slice a46 l46 c46 ∧ Ab p4 (fun d47 => Af w44 d47 0 [.slice a46 l46 c46] ∧ ∀ w48, w48 = setCells w44 d47 0 [.slice a46 l46 c46] → R (.returned (.int .i64 0)) w48)) w43)) w20)) w11) (∀ w49, Grew w11 w49 → Ab p4 (fun d50 => ∃ a51 l51 c51, w49.cell? d50 = some (.slice a51 l51 c51) ∧ ∀ b52 w53, Ag w49 w53 b52 (.cells #[.int .u64 p2_0, .float .f64 p2_1] 43) → Ad w49 w53 [d50] ∧ SemW Tryz.prog (Builtin.append_ #[62, 62] 62 #[.slice a51 l51 c51, .slice (some ⟨b52, 0, none⟩) 1 1]) (fun u55 w54 => ∃ a56 l56 c56, u55 = .slice a56 l56 c56 ∧ Ab p4 (fun d57 => Af w54 d57 0 [.slice a56 l56 c56] ∧ ∀ w58, w58 = setCells w54 d57 0 [.slice a56 l56 c56] → R (.returned (.int .i64 0)) w58)) w53)))))))
theorem sx16.ok {d : Nat} {i p2_0 : Int} {p2_1 : Nat} {R : Ending → World → Prop} {w : World} (h : sx16 d i p2_0 p2_1 R w) : Aa Tryz.prog 16 [.pointer (some ⟨d, 0, none⟩), .int .i64 i, .agg #[.int .u64 p2_0, .float .f64 p2_1]] w R :=
 okOf { locals := [5, 11], sem := [44, 54, 70], draws := [(6, { order := (ol [0,1,2,3,4,5,6,7,8,9,10] .nil), bars := [5] }), (12, { order := (ol [0,1,2,3,4,5,6,7,8,9,10] .nil), bars := [7, 10] })] } mix Tryz.func16 (by kernel_rfl) (by kernel_rfl) (by kernel_rfl) h
def sx18 (s : Nat) (p : Int) (on : Bool) (R : Ending → World → Prop) (w : World) : Prop :=
 Aa Tryz.prog 52 [.pointer (some ⟨s, 0, none⟩), .int .i64 p] w (RetR R fun u2 w1 => ∃ p3 n4, u2 = .tuple #[.pointer p3, .int .i64 n4] ∧ ifB (n4 == 0) (Ab p3 (fun d6 => Af w1 (Addr.add d6 1) 0 [.bool (!on)] ∧ ∀ w7, w7 = setCells w1 (Addr.add d6 1) 0 [.bool (!on)] → R (.returned (.int .i64 n4)) w7)) (R (.returned (.int .i64 n4)) w1))
theorem sx18.ok {s : Nat} {p : Int} {on : Bool} {R : Ending → World → Prop} {w : World} (h : sx18 s p on R w) : Aa Tryz.prog 18 [.pointer (some ⟨s, 0, none⟩), .int .i64 p, .bool on] w R :=
 okOf {} mix Tryz.func18 (by kernel_rfl) (by kernel_rfl) (by kernel_rfl) h
def sx116 (s : Nat) (R : Ending → World → Prop) (w : World) : Prop :=
 ∃ a1 l1 c1, w.cell? ⟨s, 0, none⟩ = some (.slice a1 l1 c1) ∧ R (.returned (.int .i64 ((l1 : Nat) : Int))) w
theorem sx116.ok {s : Nat} {R : Ending → World → Prop} {w : World} (h : sx116 s R w) : Aa Tryz.prog 116 [.pointer (some ⟨s, 0, none⟩)] w R :=
 okOf { known := [4] } mix Tryz.func116 (by kernel_rfl) (by kernel_rfl) (by kernel_rfl) h
def sx74 (s : Nat) (p : Int) (R : Ending → World → Prop) (w : World) : Prop :=
 Aa Tryz.prog 52 [.pointer (some ⟨s, 0, none⟩), .int .i64 p] w (RetR R fun u2 w1 => ∃ p3 n4, u2 = .tuple #[.pointer p3, .int .i64 n4] ∧ ifB (n4 == 0) (Ab p3 (fun d6 => ∃ b7, w1.cell? (Addr.add d6 1) = some (.bool b7) ∧ R (.returned (.bool (!b7))) w1)) (R (.returned (.bool false)) w1))
theorem sx74.ok {s : Nat} {p : Int} {R : Ending → World → Prop} {w : World} (h : sx74 s p R w) : Aa Tryz.prog 74 [.pointer (some ⟨s, 0, none⟩), .int .i64 p] w R :=
 okOf {} mix Tryz.func74 (by kernel_rfl) (by kernel_rfl) (by kernel_rfl) h
def sx63 (s : Nat) (p : Int) (R : Ending → World → Prop) (w : World) : Prop :=
 Aa Tryz.prog 52 [.pointer (some ⟨s, 0, none⟩), .int .i64 p] w (RetR R fun u2 w1 => ∃ p3 n4, u2 = .tuple #[.pointer p3, .int .i64 n4] ∧ ifB (n4 != 0) (R (.returned (.int .i64 0)) w1) (Ab p3 (fun d6 => ∃ a7 l7 c7, w1.cell? d6 = some (.slice a7 l7 c7) ∧ R (.returned (.int .i64 ((l7 : Nat) : Int))) w1)))
theorem sx63.ok {s : Nat} {p : Int} {R : Ending → World → Prop} {w : World} (h : sx63 s p R w) : Aa Tryz.prog 63 [.pointer (some ⟨s, 0, none⟩), .int .i64 p] w R :=
 okOf {} mix Tryz.func63 (by kernel_rfl) (by kernel_rfl) (by kernel_rfl) h
def sx117 (s : Nat) (p : Int) (R : Ending → World → Prop) (w : World) : Prop :=
 Aa Tryz.prog 52 [.pointer (some ⟨s, 0, none⟩), .int .i64 p] w (RetR R fun u2 w1 => ∃ p3 n4, u2 = .tuple #[.pointer p3, .int .i64 n4] ∧ ifB (n4 != 0) (R (.returned (.slice none 0 0)) w1) (Ab p3 (fun d6 => ∃ a7 l7 c7, w1.cell? d6 = some (.slice a7 l7 c7) ∧ Aa Tryz.prog 137 [.slice a7 l7 c7] w1 (RetR R fun u9 w8 => ∃ a10 l10 c10, u9 = .slice a10 l10 c10 ∧ R (.returned (.slice a10 l10 c10)) w8))))
theorem sx117.ok {s : Nat} {p : Int} {R : Ending → World → Prop} {w : World} (h : sx117 s p R w) : Aa Tryz.prog 117 [.pointer (some ⟨s, 0, none⟩), .int .i64 p] w R :=
 okOf {} mix Tryz.func117 (by kernel_rfl) (by kernel_rfl) (by kernel_rfl) h
abbrev SrA := Fl 112 124 43 79
abbrev SrM := Fo 112 124 43 79
theorem srD : SrcD 112 124 43 79 := by unfold SrcD; decide
theorem elOp : B4 Tryz.prog 22 79 Enc.op3.sz 24 := B4.mk' (z := .agg #[.int .i64 0, .int .i64 0, .float .f64 0]) (by kernel_rfl) (by kernel_rfl) (by kernel_rfl)
theorem Pp {a : Option Addr} {n c : Nat} {l : List OpV} {w : World} (hr : Reads w Enc.op3 (a, n, c) l) (hl : l.length * 24 ≤ 140737488355328) : Aa Tryz.prog 39 [.slice a n c] w (Rets (Dk w 79 Enc.op3 l)) := by
 refine sx39.ok ?_
 unfold sx39
 refine ⟨fun h => ?_, fun h b1 w2 hal => ?_⟩
 ·have ha : a = none := by simpa using h
  subst ha
  have hn : n = l.length := hr.2.1
  have hc : c = 0 := hr.2.2.1 rfl
  have hnc : n ≤ c := hr.2.2.2
  have : l = [] := List.eq_nil_of_length_eq_zero (by omega)
  subst this
  exact ⟨_, rfl, none, 0, 0, rfl, Own.nil _ _ _ _, Grew.refl _⟩
 ·have ho := Own.alloc (E := Enc.op3) (l := []) hal (Nat.le_refl _) rfl (by decide)
  have hr2 := hr.grew hal.grew
  refine B5 elOp ho hr2.1 hr2.2.1 hr2.2.2.1 hal.grew.size (by simp [maxLen]; omega) (by simp; omega) ?_
  rintro v w3 ⟨a5, l5, c5, rfl, ho5, hu5, -⟩
  exact ⟨a5, l5, c5, rfl, _, rfl, a5, l5, c5, rfl, ho5, hal.grew.then_own hu5 fun b hb => (ho.blk hb).1⟩
theorem Qz : B4 Tryz.prog 62 43 Enc.rcd.sz 16 := B4.mk' (z := .agg #[.int .u64 0, .float .f64 0]) (by kernel_rfl) (by kernel_rfl) (by kernel_rfl)
theorem Tq {a : Option Addr} {n c : Nat} {l : List RecV} {w : World} (hr : Reads w Enc.rcd (a, n, c) l) (hl : l.length * 16 ≤ 140737488355328) : Aa Tryz.prog 137 [.slice a n c] w (Rets (Dk w 43 Enc.rcd l)) := by
 refine sx137.ok ?_
 unfold sx137
 refine ⟨fun h => ?_, fun h b1 w2 hal => ?_⟩
 ·have ha : a = none := by simpa using h
  subst ha
  have hn : n = l.length := hr.2.1
  have hc : c = 0 := hr.2.2.1 rfl
  have hnc : n ≤ c := hr.2.2.2
  have : l = [] := List.eq_nil_of_length_eq_zero (by omega)
  subst this
  exact ⟨_, rfl, none, 0, 0, rfl, Own.nil _ _ _ _, Grew.refl _⟩
 ·have ho := Own.alloc (E := Enc.rcd) (l := []) hal (Nat.le_refl _) rfl (by decide)
  have hr2 := hr.grew hal.grew
  refine B5 Qz ho hr2.1 hr2.2.1 hr2.2.2.1 hal.grew.size (by simp [maxLen]; omega) (by simp; omega) ?_
  rintro v w3 ⟨a5, l5, c5, rfl, ho5, hu5, -⟩
  exact ⟨a5, l5, c5, rfl, _, rfl, a5, l5, c5, rfl, ho5, hal.grew.then_own hu5 fun b hb => (ho.blk hb).1⟩
def NewS (w : World) (parts : Int) (l : List OpV) (v : Value) (w' : World) : Prop :=
 Grew w w' ∧ (((parts < 1 ∨ 4 < parts) ∧ v = .tuple #[.pointer none, .int .i64 1]) ∨ ((1 ≤ parts ∧ parts ≤ 4) ∧ Aw l = false ∧ v = .tuple #[.pointer none, .int .i64 30]) ∨
  ((1 ≤ parts ∧ parts ≤ 4) ∧ Aw l = true ∧ ∃ x, v = .tuple #[.pointer (some ⟨x.p, 0, none⟩), .int .i64 0] ∧ SrA w' w.heap.size x (Dz parts.toNat l)))
theorem Fe {α : Type} {n i : Nat} {x y : α} (h : (List.replicate n x)[i]? = some y) : y = x ∧ i < n := by
 rw [List.getElem?_replicate] at h
 split at h
 ·cases h; exact ⟨rfl, by assumption⟩
 ·cases h
theorem Ws {parts : Int} {a : Option Addr} {n c : Nat} {l : List OpV} {w : World} (hr : Reads w Enc.op3 (a, n, c) l) (hl : ∀ o ∈ l, o.Fits) :
  Aa Tryz.prog 11 [.int .i64 parts, .slice a n c] w (Rets (NewS w parts l)) := by
 refine sx11.ok ?_
 unfold sx11
 have nb : ∀ {x y : World}, Ad x y [] := by intro x y; simp [Ad]
 refine ⟨fun h => ⟨_, rfl, Grew.refl _, .inl ⟨.inl (by simpa using h), rfl⟩⟩, fun h1 => ⟨fun h => ⟨_, rfl, Grew.refl _, .inl ⟨.inr (by simpa using h), rfl⟩⟩, fun h2 => ?_⟩⟩
 simp only [decide_eq_false_iff_not] at h1 h2
 refine (Ll hr).use fun v w1 ⟨hv, hg1⟩ => ?_
 subst hv
 cases hc : Aw l
 ·exact ⟨_, rfl, fun _ => ⟨_, rfl, hg1, .inr (.inl ⟨⟨by omega, by omega⟩, hc, rfl⟩)⟩, fun h => (by simp at h)⟩
 refine ⟨_, rfl, fun h => (by simp at h), fun _ w5 hg5 => ?_⟩
 have hg5 := hg1.trans hg5
 have hlen := (Cu hc).1
 obtain ⟨k, rfl⟩ : ∃ k : Nat, parts = k := ⟨parts.toNat, by omega⟩
 have mk : ∀ {w1 : World} {K : Value → World → Prop}, (∀ v w', Dk w1 124 Enc.part (List.replicate k ((none, 0, 0), false)) v w' → K v w') → SemW Tryz.prog (Instr.makeSlice 109 (.int .i64 (k : Int)) (.int .i64 (k : Int))) K w1 := fun hK =>
  Hf (E := Enc.part) (x := ((none, 0, 0), false)) (z := .agg #[.slice none 0 0, .bool false]) (bytes := 32) (by kernel_rfl) (by kernel_rfl) rfl (by omega) (by simp [maxLen]; omega) hK
 have cl : ∀ {w1 : World}, Grew w w1 → Aa Tryz.prog 39 [.slice a n c] w1 (Rets (Dk w1 79 Enc.op3 l)) := fun hg => Pp (hr.grew hg) (by omega)
 have fin : ∀ {w' w'' : World} {a8 a11 : Option Addr} {l8 c8 l11 c11 mb b16 : Nat}, Grew w w' → Own w' w.heap.size 124 Enc.part a8 l8 c8 (List.replicate k ((none, 0, 0), false)) → Own w' w.heap.size 79 Enc.op3 a11 l11 c11 l → Av w' mb .u64 Kh [] → w.heap.size ≤ mb →
   Ag w' w'' b16 (.cells [.slice a8 l8 c8, .slice a11 l11 c11, .map (some mb)].toArray 112) → Rets (NewS w k l) (.returned (.tuple #[.pointer (some ⟨b16, 0, none⟩), .int .i64 0])) w'' := by
  intro w' w'' a8 a11 l8 c8 l11 c11 mb b16 hg ho8 ho11 hm hmB hal
  have hl8 : l8 = k := by rw [ho8.len]; simp
  subst hl8
  obtain ⟨g, rfl⟩ : ∃ g, a8 = some ⟨g, 0, none⟩ := by
   rcases ho8.out with ⟨-, h, -, -⟩ | ⟨g, cur, h, -⟩
   ·have := congrArg List.length h; simp at this; omega
   ·exact ⟨g, h⟩
  refine ⟨_, rfl, hg.trans hal.grew, .inr (.inr ⟨⟨by omega, by omega⟩, hc, ⟨b16, g, mb, c8, (a11, l11, c11), List.replicate l8 ((none, 0, 0), false)⟩, rfl, ?_⟩)⟩
  refine ⟨?_, ?_, by simp [Dz], ?_, ?_, ho11.grew hal.grew, hm.grew hal.grew, Nat.le_trans hg.size hal.new, hmB, ⟨hl, hc, by simp [Dz]; omega, ?_, by simp [Dz]⟩⟩
  ·simpa [Row] using hal.at_
  ·simpa using ho8.grew hal.grew
  ·intro i s hs
   obtain ⟨rfl, hi⟩ := Fe hs
   exact ⟨([], false), by simp [Dz, hi], rfl, Own.nil _ _ _ _⟩
  ·intro i j s t hij hs ht b hb
   obtain ⟨rfl, -⟩ := Fe hs
   exact (Blk.none hb).elim
  ·intro q hq
   have := List.eq_of_mem_replicate hq
   subst this; simp
 have s5 := hg5.size
 refine ⟨mk fun v w6 ⟨a8, l8, c8, hv, ho8, hg8⟩ => ?_, (cl hg5).use fun v w6 ⟨a8, l8, c8, hv, ho8, hg8⟩ => ?_, Et fun mb w6 hal6 => ?_⟩
 ·subst hv
  have hg6 := hg5.trans hg8
  have s6 := hg6.size
  refine ⟨_, _, _, rfl, nb, (cl hg6).use fun v w9 ⟨a11, l11, c11, hv, ho11, hg11⟩ => ?_, Et fun mb w9 hal9 => ?_⟩
  ·subst hv
   have hg9 := hg6.trans hg11
   refine ⟨_, _, _, rfl, nb, Et fun mb w13 hal13 => ⟨_, rfl, nb, fun b w17 hal17 => ⟨nb, ?_⟩⟩⟩
   exact fin (hg9.trans hal13.grew) (((ho8.grew hg11).grew hal13.grew).base s5) ((ho11.grew hal13.grew).base s6) (Av.empty hal13) (Nat.le_trans hg9.size hal13.new) hal17
  ·have hg9 := hg6.trans hal9.grew
   refine ⟨_, rfl, nb, (cl hg9).use fun v w13 ⟨a11, l11, c11, hv, ho11, hg11⟩ => ?_⟩
   subst hv
   refine ⟨_, _, _, rfl, nb, fun b w17 hal17 => ⟨nb, ?_⟩⟩
   exact fin (hg9.trans hg11) (((ho8.grew hal9.grew).grew hg11).base s5) (ho11.base hg9.size) ((Av.empty hal9).grew hg11) (Nat.le_trans s6 hal9.new) hal17
 ·subst hv
  have hg6 := hg5.trans hg8
  have s6 := hg6.size
  refine ⟨_, _, _, rfl, nb, mk fun v w9 ⟨a11, l11, c11, hv, ho11, hg11⟩ => ?_, Et fun mb w9 hal9 => ?_⟩
  ·subst hv
   have hg9 := hg6.trans hg11
   refine ⟨_, _, _, rfl, nb, Et fun mb w13 hal13 => ⟨_, rfl, nb, fun b w17 hal17 => ⟨nb, ?_⟩⟩⟩
   exact fin (hg9.trans hal13.grew) ((ho11.grew hal13.grew).base s6) (((ho8.grew hg11).grew hal13.grew).base s5) (Av.empty hal13) (Nat.le_trans hg9.size hal13.new) hal17
  ·have hg9 := hg6.trans hal9.grew
   refine ⟨_, rfl, nb, mk fun v w13 ⟨a11, l11, c11, hv, ho11, hg11⟩ => ?_⟩
   subst hv
   refine ⟨_, _, _, rfl, nb, fun b w17 hal17 => ⟨nb, ?_⟩⟩
   exact fin (hg9.trans hg11) (ho11.base hg9.size) (((ho8.grew hal9.grew).grew hg11).base s5) ((Av.empty hal9).grew hg11) (Nat.le_trans s6 hal9.new) hal17
 ·have hg6 := hg5.trans hal6.grew
  have s6 := hg6.size
  refine ⟨_, rfl, nb, mk fun v w9 ⟨a8, l8, c8, hv, ho8, hg8⟩ => ?_, (cl hg6).use fun v w9 ⟨a8, l8, c8, hv, ho8, hg8⟩ => ?_⟩
  ·subst hv
   have hg9 := hg6.trans hg8
   refine ⟨_, _, _, rfl, nb, (cl hg9).use fun v w13 ⟨a11, l11, c11, hv, ho11, hg11⟩ => ?_⟩
   subst hv
   refine ⟨_, _, _, rfl, nb, fun b w17 hal17 => ⟨nb, ?_⟩⟩
   exact fin (hg9.trans hg11) ((ho8.grew hg11).base s6) (ho11.base hg9.size) (((Av.empty hal6).grew hg8).grew hg11) (Nat.le_trans s5 hal6.new) hal17
  ·subst hv
   have hg9 := hg6.trans hg8
   refine ⟨_, _, _, rfl, nb, mk fun v w13 ⟨a11, l11, c11, hv, ho11, hg11⟩ => ?_⟩
   subst hv
   refine ⟨_, _, _, rfl, nb, fun b w17 hal17 => ⟨nb, ?_⟩⟩
   exact fin (hg9.trans hg11) (ho11.base hg9.size) ((ho8.grew hg11).base s6) (((Av.empty hal6).grew hg8).grew hg11) (Nat.le_trans s5 hal6.new) hal17
theorem Je {w : World} {B : Nat} {x : SrcX} {v : SrcV} {p : Int} (h : SrA w B x v) :
  Aa Tryz.prog 52 [.pointer (some ⟨x.p, 0, none⟩), .int .i64 p] w (Rets fun u w' => w' = w ∧ match v.getP p with | none => u = .tuple #[.pointer none, .int .i64 60] | some _ => u = .tuple #[.pointer (some ⟨x.pb, p.toNat * 2, none⟩), .int .i64 0]) := by
 refine sx52.ok ?_
 unfold sx52
 have hl := h.len
 cases hp : v.getP p with
 | none =>
  have hn := Qr hp
  refine ⟨fun _ => ⟨_, rfl, rfl, rfl⟩, fun h0 => ⟨_, _, _, by rw [h.row.cell]; rfl, fun _ => ⟨_, rfl, rfl, rfl⟩, fun h1 => ?_⟩⟩
  simp only [decide_eq_false_iff_not] at h0 h1
  omega
 | some q =>
  obtain ⟨h0, h1, h2⟩ := A4 hp
  have hc : w.cell? ⟨x.p, 0, none⟩ = some (.slice (some ⟨x.pb, 0, none⟩) x.ps.length x.pc) := by rw [h.row.cell]; rfl
  refine ⟨fun hh => ?_, fun _ => ⟨_, _, _, hc, fun hh => ?_, fun _ => ⟨_, _, _, hc, ⟨by omega, by omega⟩, _, rfl, rfl, ?_⟩⟩⟩
  ·simp only [decide_eq_true_eq] at hh; omega
  ·simp only [decide_eq_true_eq] at hh; omega
  ·simp [Au]
theorem Afd : ∀ w, (zeroValue 127).run Tryz.prog w = .ok (Kh ()) w := Jw (by kernel_rfl)
theorem Wt : Tryz.prog.underlying 110 = some (.map 40 127) := by kernel_rfl
theorem uU64 : Tryz.prog.underlying 40 = some (.int .u64) := by kernel_rfl
theorem Ya {ks : List Int} {k : Int} : getM (ks.map fun k => (k, ())) k = if k ∈ ks then some () else none := by
 unfold getM
 induction ks with
 | nil => rfl
 | cons y r ih =>
  simp only [List.map_cons, List.find?_cons]
  by_cases h : y = k
  ·subst h; simp
  ·have h' : ¬ k = y := fun e => h e.symm
   simp only [beq_iff_eq, h, List.mem_cons, h', false_or]
   rw [show (y == k) = false from by simpa using h]; exact ih
theorem Mk {ks : List Int} {k : Int} : setM (ks.map fun k => (k, ())) k () = (if k ∈ ks then ks else ks ++ [k]).map fun k => (k, ()) := by
 unfold setM
 by_cases h : k ∈ ks
 ·rw [if_pos h, if_pos (by simp; exact h)]
  rw [List.map_map]
  apply List.map_congr_left
  intro a ha
  simp only [Function.comp]
  split
  ·rename_i h'; simp only [beq_iff_eq] at h'; rw [h']
  ·rfl
 ·rw [if_neg h, if_neg (by simp; exact h)]; simp
theorem H5 {w : World} {B : Nat} {x : SrcX} {v : SrcV} {p : Int} {r : RecV} (h : SrA w B x v) (hr : r.Fits) (hB : B ≤ w.heap.size) :
  Aa Tryz.prog 16 [.pointer (some ⟨x.p, 0, none⟩), .int .i64 p, r.v] w (Rets fun u w' => u = .int .i64 (v.produce p r).2 ∧ SrM w B x w' (v.produce p r).1) := by
 refine sx16.ok ?_
 unfold sx16
 intro w1 hg1
 refine (Je (h.grew hg1)).use fun u w2 ⟨hw, hv⟩ => ?_
 subst hw
 unfold SrcV.produce
 cases hp : v.getP p with
 | none =>
  rw [hp] at hv
  subst hv
  exact ⟨_, _, rfl, fun _ => ⟨_, rfl, rfl, Fo.grew h hg1⟩, fun hh => (by simp at hh)⟩
 | some q =>
  rw [hp] at hv
  subst hv
  have h2 := h.grew hg1
  obtain ⟨s, hs, hs2, ho, hc0, hc1⟩ := h2.part hp
  obtain ⟨hp0, hp1, hpq⟩ := A4 hp
  have hql := h.fits.logs q (List.mem_of_getElem? hpq)
  have hsl : s.1.2.1 = q.1.length := ho.len
  refine ⟨_, _, rfl, fun hh => (by simp at hh), fun _ => ⟨_, _, _, hc0, fun hge => ?_, fun hlt w9 hg9 => ?_⟩⟩
  ·simp only [decide_eq_true_eq] at hge
   exact ⟨_, rfl, by simp only; rw [if_pos (by omega)], by simp only; rw [if_pos (by omega)]; exact Fo.grew h hg1⟩
  simp only [decide_eq_false_iff_not] at hlt
  have hlt' : ¬ 256 ≤ q.1.length := by omega
  simp only
  rw [if_neg hlt']
  have h9 := h2.grew hg9
  have hg9' := hg1.trans hg9
  refine ⟨_, _, _, by rw [h9.row.cell]; rfl, (Adn h9.list.reads h.fits.list hr).use' fun u w11 ⟨hv, hg11⟩ => ?_⟩
  subst hv
  have h11 := h9.grew hg11
  have hg11' := hg9'.trans hg11
  have hkb := Na h.fits.list hr
  -- the record behind the others
  have push : ∀ {w' : World} {v' : SrcV} {x' : SrcX}, SrA w' B x' v' → v'.parts = v.parts → x'.pb = x.pb → x'.ps = x.ps → w.heap.size ≤ w'.heap.size → ∀ (Q : World → Prop), (∀ w3, SrM w' B x' w3 (v'.setP p (q.1 ++ [r], q.2)) → Q w3) →
    ∃ (a29 : Option Addr) (l29 c29 : Nat), w'.cell? ⟨x.pb, p.toNat * 2, none⟩ = some (.slice a29 l29 c29) ∧ ∀ (b30 : Nat) (w31 : World), Ag w' w31 b30 (.cells #[.int .u64 r.key, .float .f64 r.val] 43) → Ad w' w31 [⟨x.pb, p.toNat * 2, none⟩] ∧
     SemW Tryz.prog (Builtin.append_ #[62, 62] 62 #[.slice a29 l29 c29, .slice (some ⟨b30, 0, none⟩) 1 1]) (fun u33 w32 => ∃ (a34 : Option Addr) (l34 c34 : Nat), u33 = .slice a34 l34 c34 ∧
      (Af w32 ⟨x.pb, p.toNat * 2, none⟩ 0 [.slice a34 l34 c34] ∧ ∀ w36, w36 = setCells w32 ⟨x.pb, p.toNat * 2, none⟩ 0 [.slice a34 l34 c34] → Q w36)) w31 := by
   intro w' v' x' hS hvp hxp hxs hsz Q hQ
   have hp' : v'.getP p = some q := by unfold SrcV.getP at hp ⊢; rw [hvp]; exact hp
   obtain ⟨s', hs', hs2', ho', hc0', -⟩ := hS.part hp'
   rw [hxs, hs] at hs'; cases hs'
   rw [hxp] at hc0'
   refine ⟨_, _, _, hc0', fun b30 w31 hal31 => ⟨⟨hal31.grew.block x.pb (by rw [← hxp]; exact (hS.foot (.inr (.inl rfl))).2), trivial⟩, ?_⟩⟩
   refine Bc (l2 := [r]) Qz ho' hal31 rfl rfl (Nat.le_trans hB hsz) (by simp [maxLen]; omega) (by simp; omega) ?_
   rintro v32 w32 ⟨a34, l34, c34, rfl, ho34, hu34, hb34⟩
   refine ⟨_, _, _, rfl, ?_⟩
   have hw : x'.ps[p.toNat]? = some s := by rw [hxs]; exact hs
   have key := hS.setPart srD hp' (s := s) hw (log' := q.1 ++ [r]) (off' := q.2) (j := 0) (val := .slice a34 l34 c34) ho34 hu34 hb34 (by
    refine ⟨by simp; omega, fun y hy => ?_⟩
    rcases List.mem_append.1 hy with hy | hy
    ·exact hql.2 y hy
    ·simp at hy; subst hy; exact hr) (by omega) (by simp [Enc.part, hs2])
   rw [Nat.add_zero, hxp] at key
   refine ⟨key.1, fun w36 h36 => hQ _ (key.2 w36 h36)⟩
  refine ⟨_, _, rfl, fun hk => ?_, fun hk w49 hg49 => ?_⟩
  ·rw [if_pos hk]
   refine ⟨_, by rw [h11.row.cell]; rfl, ?_⟩
   refine Tc (F := Kh) (z := Kh ()) Wt uU64 Afd h11.map ?_
   rw [Ya]
   by_cases hin : (A8 v.list r).1 ∈ v.keys
   ·rw [if_pos hin, if_pos hin]
    refine ⟨_, rfl, fun w20 hg20 => ⟨fun hh => (by simp at hh), fun _ => ?_⟩⟩
    have h20 := h11.grew hg20
    have hg20' := hg11'.trans hg20
    refine ⟨_, by rw [h20.row.cell]; rfl, ?_⟩
    refine Ed (F := Kh) (x := ()) Wt uU64 h20.map (by simp [Lit.wf, IntKind.min, IntKind.max, IntKind.signed, IntKind.bits]; simp only [u64m] at hkb; omega) ?_
    intro w38 hm38 hu38 w39 hg39
    rw [Mk, if_pos hin] at hm38
    have h38 : SrA w38 B x v := ⟨h20.row.upd hu38 (fun e => h20.map.row_ne h20.row e), h20.parts.upd hu38 (fun b hb e => h20.map.own_ne h20.parts (e ▸ hb)), h20.len, fun i t ht => by
     obtain ⟨qi, g1, g2, g3⟩ := h20.logs i t ht
     exact ⟨qi, g1, g2, g3.upd hu38 fun b hb e => h20.map.own_ne g3 (e ▸ hb)⟩, h20.apart, h20.list.upd hu38 (fun b hb e => h20.map.own_ne h20.list (e ▸ hb)), hm38, h20.pB, h20.mB, h20.fits⟩
    have h39 := h38.grew hg39
    have hU39 : Upd x.Foot w w39 := ((hg20'.then_upd (hu38.mono fun b _ hb => .inr (.inr (.inl hb)))).then_grew hg39)
    have s39 := hU39.size
    refine push h39 rfl rfl rfl s39 _ fun w3 hM => ⟨_, rfl, rfl, ?_⟩
    obtain ⟨x', k1, k2, k3, k4⟩ := hM.out
    exact ⟨⟨x', k1, k2, hU39.trans k3, fun b hb => (k4 b hb).imp id (Nat.le_trans s39)⟩⟩
   ·rw [if_neg hin, if_neg hin]
    refine ⟨_, rfl, fun w20 hg20 => ⟨fun _ => ?_, fun hh => (by simp at hh)⟩⟩
    have h20 := h11.grew hg20
    have hg20' := hg11'.trans hg20
    refine ⟨_, by rw [h20.row.cell]; rfl, R4 Wt h20.map ⟨_, rfl, fun hge => ?_, fun hlt2 => ?_⟩⟩
    ·simp only [decide_eq_true_eq, List.length_map] at hge
     rw [if_pos (by omega)]
     exact ⟨_, rfl, rfl, Fo.grew h hg20'⟩
    simp only [decide_eq_false_iff_not, List.length_map] at hlt2
    rw [if_neg (by omega)]
    refine ⟨_, by rw [h20.row.cell]; rfl, ?_⟩
    refine Ed (F := Kh) (x := ()) Wt uU64 h20.map (by simp [Lit.wf, IntKind.min, IntKind.max, IntKind.signed, IntKind.bits]; simp only [u64m] at hkb; omega) ?_
    intro w38 hm38 hu38 w39 hg39
    rw [Mk, if_neg hin] at hm38
    have hf : (⟨v.parts, v.list, v.keys ++ [(A8 v.list r).1]⟩ : SrcV).Fits := by
     refine ⟨h.fits.list, h.fits.check, h.fits.parts, h.fits.logs, List.nodup_append.2 ⟨h.fits.keys.1, by simp, ?_⟩, by simp; omega, ?_⟩
     ·intro a ha b hb; simp at hb; subst hb; exact fun e => hin (e ▸ ha)
     ·intro k hk
      rcases List.mem_append.1 hk with hk | hk
      ·exact h.fits.keys.2.2 k hk
      ·simp at hk; subst hk; exact hkb
    have h38 : SrA w38 B x ⟨v.parts, v.list, v.keys ++ [(A8 v.list r).1]⟩ := ⟨h20.row.upd hu38 (fun e => h20.map.row_ne h20.row e), h20.parts.upd hu38 (fun b hb e => h20.map.own_ne h20.parts (e ▸ hb)), h20.len, fun i t ht => by
     obtain ⟨qi, g1, g2, g3⟩ := h20.logs i t ht
     exact ⟨qi, g1, g2, g3.upd hu38 fun b hb e => h20.map.own_ne g3 (e ▸ hb)⟩, h20.apart, h20.list.upd hu38 (fun b hb e => h20.map.own_ne h20.list (e ▸ hb)), hm38, h20.pB, h20.mB, hf⟩
    have h39 := h38.grew hg39
    have hU39 : Upd x.Foot w w39 := ((hg20'.then_upd (hu38.mono fun b _ hb => .inr (.inr (.inl hb)))).then_grew hg39)
    have s39 := hU39.size
    refine push h39 rfl rfl rfl s39 _ fun w3 hM => ⟨_, rfl, rfl, ?_⟩
    obtain ⟨x', k1, k2, k3, k4⟩ := hM.out
    exact ⟨⟨x', k1, k2, hU39.trans k3, fun b hb => (k4 b hb).imp id (Nat.le_trans s39)⟩⟩
  ·have hk' : ¬ (A8 v.list r).2 = true := by rw [hk]; simp
   rw [if_neg hk']
   have h49 := h11.grew hg49
   have hg49' := hg11'.trans hg49
   refine push h49 rfl rfl rfl hg49'.size _ fun w3 hM => ⟨_, rfl, rfl, ?_⟩
   obtain ⟨x', k1, k2, k3, k4⟩ := hM.out
   exact ⟨⟨x', k1, k2, hg49'.then_upd k3, fun b hb => (k4 b hb).imp id (Nat.le_trans hg49'.size)⟩⟩
theorem Yb {w : World} {B : Nat} {x : SrcX} {v : SrcV} {p : Int} {on : Bool} (h : SrA w B x v) :
  Aa Tryz.prog 18 [.pointer (some ⟨x.p, 0, none⟩), .int .i64 p, .bool on] w (Rets fun u w' => u = .int .i64 (v.switch p on).2 ∧ SrM w B x w' (v.switch p on).1) := by
 refine sx18.ok ?_
 unfold sx18
 refine (Je h).use fun u w2 ⟨hw, hv⟩ => ?_
 subst hw
 unfold SrcV.switch
 cases hp : v.getP p with
 | none =>
  rw [hp] at hv
  subst hv
  exact ⟨_, _, rfl, fun hh => (by simp at hh), fun _ => ⟨_, rfl, rfl, Fo.grew h (Grew.refl _)⟩⟩
 | some q =>
  rw [hp] at hv
  subst hv
  obtain ⟨s, hs, hs2, ho, hc0, hc1⟩ := h.part hp
  obtain ⟨hp0, hp1, hpq⟩ := A4 hp
  have hql := h.fits.logs q (List.mem_of_getElem? hpq)
  have key := h.setPart srD hp (s := s) hs (a' := s.1.1) (n' := s.1.2.1) (c' := s.1.2.2) (log' := q.1) (off' := !on) (j := 1) (val := .bool (!on)) ho (Upd.refl _ _) (fun b hb => .inl hb) hql (by omega) (by simp [Enc.part])
  refine ⟨_, _, rfl, fun _ => ?_, fun hh => (by simp at hh)⟩
  rw [Ab]
  simp only [Au]
  exact ⟨key.1, fun w7 h7 => ⟨_, rfl, rfl, key.2 w7 h7⟩⟩
theorem Yc {w : World} {B : Nat} {x : SrcX} {v : SrcV} (h : SrA w B x v) :
  Aa Tryz.prog 116 [.pointer (some ⟨x.p, 0, none⟩)] w (Rets fun u w' => u = .int .i64 (v.parts.length : Int) ∧ w' = w) := by
 refine sx116.ok ?_
 unfold sx116
 exact ⟨_, _, _, by rw [h.row.cell]; rfl, _, rfl, by rw [h.len], rfl⟩
theorem Afe {w : World} {B : Nat} {x : SrcX} {v : SrcV} {p : Int} (h : SrA w B x v) :
  Aa Tryz.prog 74 [.pointer (some ⟨x.p, 0, none⟩), .int .i64 p] w (Rets fun u w' => u = .bool (v.up p) ∧ w' = w) := by
 refine sx74.ok ?_
 unfold sx74
 refine (Je h).use fun u w2 ⟨hw, hv⟩ => ?_
 subst hw
 unfold SrcV.up
 cases hp : v.getP p with
 | none =>
  rw [hp] at hv; subst hv
  exact ⟨_, _, rfl, fun hh => (by simp at hh), fun _ => ⟨_, rfl, rfl, rfl⟩⟩
 | some q =>
  rw [hp] at hv; subst hv
  obtain ⟨s, hs, hs2, ho, hc0, hc1⟩ := h.part hp
  refine ⟨_, _, rfl, fun _ => ⟨s.2, ?_, _, rfl, by rw [hs2], rfl⟩, fun hh => (by simp at hh)⟩
  simp only [Au]; exact hc1
theorem Wu {w : World} {B : Nat} {x : SrcX} {v : SrcV} {p : Int} (h : SrA w B x v) :
  Aa Tryz.prog 63 [.pointer (some ⟨x.p, 0, none⟩), .int .i64 p] w (Rets fun u w' => u = .int .i64 (v.len p) ∧ w' = w) := by
 refine sx63.ok ?_
 unfold sx63
 refine (Je h).use fun u w2 ⟨hw, hv⟩ => ?_
 subst hw
 unfold SrcV.len
 cases hp : v.getP p with
 | none =>
  rw [hp] at hv; subst hv
  exact ⟨_, _, rfl, fun _ => ⟨_, rfl, rfl, rfl⟩, fun hh => (by simp at hh)⟩
 | some q =>
  rw [hp] at hv; subst hv
  obtain ⟨s, hs, hs2, ho, hc0, hc1⟩ := h.part hp
  exact ⟨_, _, rfl, fun hh => (by simp at hh), fun _ => ⟨_, _, _, hc0, _, rfl, by rw [ho.len], rfl⟩⟩
theorem Aeu {w : World} {B : Nat} {x : SrcX} {v : SrcV} {p : Int} (h : SrA w B x v) :
  Aa Tryz.prog 117 [.pointer (some ⟨x.p, 0, none⟩), .int .i64 p] w (Rets (Dk w 43 Enc.rcd (v.log p))) := by
 refine sx117.ok ?_
 unfold sx117
 refine (Je h).use fun u w2 ⟨hw, hv⟩ => ?_
 subst hw
 unfold SrcV.log
 cases hp : v.getP p with
 | none =>
  rw [hp] at hv; subst hv
  exact ⟨_, _, rfl, fun _ => ⟨_, rfl, none, 0, 0, rfl, Own.nil _ _ _ _, Grew.refl _⟩, fun hh => (by simp at hh)⟩
 | some q =>
  rw [hp] at hv; subst hv
  obtain ⟨s, hs, hs2, ho, hc0, hc1⟩ := h.part hp
  have hql := h.fits.logs q (List.mem_of_getElem? (A4 hp).2.2)
  refine ⟨_, _, rfl, fun hh => (by simp at hh), fun _ => ⟨_, _, _, hc0, (Tq ho.reads (by omega)).use fun u w3 hf => ?_⟩⟩
  obtain ⟨a, n, c, rfl, h1, h2⟩ := hf
  exact ⟨_, _, _, rfl, _, rfl, a, n, c, rfl, h1, h2⟩
end Go.Proofs.YtcpkneemhfnanaaGreat
