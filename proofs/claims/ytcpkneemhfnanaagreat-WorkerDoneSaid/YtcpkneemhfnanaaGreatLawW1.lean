/- WorkerDone: what it computes, and its row. Conditions: none. -/
import Derived.Test.YtcpkneemhfnanaaGreatProg
import Derived.Test.YtcpkneemhfnanaaGreatWorkK
import Derived.Test.YtcpkneemhfnanaaGreatRows
import Derived.Test.YtcpkneemhfnanaaGreatSxT
namespace Go.Proofs.YtcpkneemhfnanaaGreat
open Go.Sx
set_option maxRecDepth 100000
set_option linter.unusedVariables false
set_option linter.unusedSimpArgs false
/- reprise/repriselaw17.WorkerDone -/
def sx4 (d_0 : Int) (d_1 : Int) (d_2 : Int) (d_3 : Option Addr) (d_3_n d_3_c : Nat) (d_4 : Int) (d_5 : Int) (d_6 : Int) (d_7 : Int) (d_8 : Option Addr) (d_8_n d_8_c : Nat) (d_9 : Int) (d_10 : Option Addr) (d_10_n d_10_c : Nat) (i : Option Addr) (i_n i_c : Nat) (p2 : Int) (R : Ending → World → Prop) (w : World) : Prop :=
  ∀ w1, Grew w w1 → CallsW Tryz.prog 8 [] w1 (RetR R fun u3 w2 => ∃ (b4 : Bool), u3 = .bool b4 ∧ (((!b4) = true → R (.returned (.bool false)) w2) ∧ ((!b4) = false → CallsW Tryz.prog 23 [.agg #[.int .i64 d_0, .int .i64 d_1,
    .int .i64 d_2, .slice d_3 d_3_n d_3_c, .int .i64 d_4, .int .i64 d_5, .int .i64 d_6, .int .i64 d_7, .slice d_8 d_8_n d_8_c, .int .i64 d_9, .slice d_10 d_10_n d_10_c]] w2 (RetR R fun u7 w6 => ∃ (p8 : Option Addr) (p9 :
    Option Addr) (a10 : Option Addr) (l10 c10 : Nat), u7 = .tuple #[.pointer p8, .pointer p9, .slice a10 l10 c10] ∧ (((Option.isNone p9) = true → CallsW Tryz.prog 24 [.agg #[.int .i64 d_0, .int .i64 d_1, .int .i64 d_2,
    .slice d_3 d_3_n d_3_c, .int .i64 d_4, .int .i64 d_5, .int .i64 d_6, .int .i64 d_7]] w6 (RetR R fun u13 w12 => ∃ (n14 : Int), u13 = .int .i64 n14 ∧ R (.returned (.bool (n14 != 0))) w12)) ∧ ((Option.isNone p9) = false
    → ∀ w16, Grew w6 w16 → CallsW Tryz.prog 25 [.int .i64 1, .int .i64 0, .int .i64 0, .slice a10 l10 c10] w16 (RetR R fun u18 w17 => ∃ (n19 : Int) (n20 : Int) (n21 : Int) (n22 : Int) (n23 : Int) (n24 : Int) (a25 : Option
    Addr) (l25 c25 : Nat) (a26 : Option Addr) (l26 c26 : Nat) (a27 : Option Addr) (l27 c27 : Nat), u18 = .agg #[.int .i64 n19, .int .i64 n20, .int .i64 n21, .int .i64 n22, .int .i64 n23, .int .i64 n24, .slice a25 l25 c25,
    .slice a26 l26 c26, .slice a27 l27 c27] ∧ CallsW Tryz.prog 13 [.pointer p9, .pointer p8, .agg #[.int .i64 n19, .int .i64 n20, .int .i64 n21, .int .i64 n22, .int .i64 n23, .int .i64 n24, .slice a25 l25 c25, .slice a26
    l26 c26, .slice a27 l27 c27]] w17 (RetR R fun u30 w29 => ∃ (a31 : Option Addr) (l31 c31 : Nat) (n32 : Int), u30 = .tuple #[.slice a31 l31 c31, .int .i64 n32] ∧ CallsW Tryz.prog 26 [.slice a31 l31 c31, .int .i64 n32,
    .int .i64 2, .int .i64 0] w29 (RetR R fun u35 w34 => ∃ (n36 : Int) (n37 : Int) (n38 : Int) (n39 : Int) (n40 : Int) (n41 : Int) (a42 : Option Addr) (l42 c42 : Nat) (a43 : Option Addr) (l43 c43 : Nat) (a44 : Option
    Addr) (l44 c44 : Nat) (b45 : Bool), u35 = .tuple #[.agg #[.int .i64 n36, .int .i64 n37, .int .i64 n38, .int .i64 n39, .int .i64 n40, .int .i64 n41, .slice a42 l42 c42, .slice a43 l43 c43, .slice a44 l44 c44], .bool
    b45] ∧ ∀ w47, Grew w34 w47 → ∀ w48, Grew w47 w48 → ∀ n49 : Int, n49 = IntKind.i64.wrap ((1 : Int) + d_2) → (((IntKind.u64.wrap d_1) = 0 → R (.panicked (divPanic Tryz.prog)) w48) ∧ ((IntKind.u64.wrap d_1) ≠ 0 → ∀ n50 :
    Int, n50 = Int.tmod (IntKind.u64.wrap p2) (IntKind.u64.wrap d_1) → SameB w48 w48 [] ∧ ∀ n51 : Int, n51 = IntKind.i64.wrap (n49 + (IntKind.i64.wrap n50)) → CallsW Tryz.prog 25 [.int .i64 7, .int .i64 n51, .int .i64 0,
    .slice none 0 0] w48 (RetR R fun u53 w52 => ∃ (n54 : Int) (n55 : Int) (n56 : Int) (n57 : Int) (n58 : Int) (n59 : Int) (a60 : Option Addr) (l60 c60 : Nat) (a61 : Option Addr) (l61 c61 : Nat) (a62 : Option Addr) (l62
    c62 : Nat), u53 = .agg #[.int .i64 n54, .int .i64 n55, .int .i64 n56, .int .i64 n57, .int .i64 n58, .int .i64 n59, .slice a60 l60 c60, .slice a61 l61 c61, .slice a62 l62 c62] ∧ CallsW Tryz.prog 13 [.pointer p9,
    .pointer p8, .agg #[.int .i64 n54, .int .i64 n55, .int .i64 n56, .int .i64 n57, .int .i64 n58, .int .i64 n59, .slice a60 l60 c60, .slice a61 l61 c61, .slice a62 l62 c62]] w52 (RetR R fun u65 w64 => ∃ (a66 : Option
    Addr) (l66 c66 : Nat) (n67 : Int), u65 = .tuple #[.slice a66 l66 c66, .int .i64 n67] ∧ (((!b45) = true → R (.returned (.bool false)) w64) ∧ ((!b45) = false → (((n67 != 0) = true → R (.returned (.bool false)) w64) ∧
    ((n67 != 0) = false → (((((l66 : Nat) : Int) != 0) = true → R (.returned (.bool false)) w64) ∧ ((((l66 : Nat) : Int) != 0) = false → CallsW Tryz.prog 25 [.int .i64 5, .int .i64 n51, .int .i64 0, .slice none 0 0] w64
    (RetR R fun u70 w69 => ∃ (n71 : Int) (n72 : Int) (n73 : Int) (n74 : Int) (n75 : Int) (n76 : Int) (a77 : Option Addr) (l77 c77 : Nat) (a78 : Option Addr) (l78 c78 : Nat) (a79 : Option Addr) (l79 c79 : Nat), u70 = .agg
    #[.int .i64 n71, .int .i64 n72, .int .i64 n73, .int .i64 n74, .int .i64 n75, .int .i64 n76, .slice a77 l77 c77, .slice a78 l78 c78, .slice a79 l79 c79] ∧ CallsW Tryz.prog 13 [.pointer p9, .pointer p8, .agg #[.int .i64
    n71, .int .i64 n72, .int .i64 n73, .int .i64 n74, .int .i64 n75, .int .i64 n76, .slice a77 l77 c77, .slice a78 l78 c78, .slice a79 l79 c79]] w69 (RetR R fun u82 w81 => ∃ (a83 : Option Addr) (l83 c83 : Nat) (n84 :
    Int), u82 = .tuple #[.slice a83 l83 c83, .int .i64 n84] ∧ (((n84 != 0) = true → R (.returned (.bool false)) w81) ∧ ((n84 != 0) = false → (((((l83 : Nat) : Int) != 0) = true → R (.returned (.bool false)) w81) ∧ ((((l83
    : Nat) : Int) != 0) = false → CallsW Tryz.prog 25 [.int .i64 3, .int .i64 0, .int .i64 0, .slice a42 l42 c42] w81 (RetR R fun u87 w86 => ∃ (n88 : Int) (n89 : Int) (n90 : Int) (n91 : Int) (n92 : Int) (n93 : Int) (a94 :
    Option Addr) (l94 c94 : Nat) (a95 : Option Addr) (l95 c95 : Nat) (a96 : Option Addr) (l96 c96 : Nat), u87 = .agg #[.int .i64 n88, .int .i64 n89, .int .i64 n90, .int .i64 n91, .int .i64 n92, .int .i64 n93, .slice a94
    l94 c94, .slice a95 l95 c95, .slice a96 l96 c96] ∧ CallsW Tryz.prog 13 [.pointer p9, .pointer p8, .agg #[.int .i64 n88, .int .i64 n89, .int .i64 n90, .int .i64 n91, .int .i64 n92, .int .i64 n93, .slice a94 l94 c94,
    .slice a95 l95 c95, .slice a96 l96 c96]] w86 (RetR R fun u99 w98 => ∃ (a100 : Option Addr) (l100 c100 : Nat) (n101 : Int), u99 = .tuple #[.slice a100 l100 c100, .int .i64 n101] ∧ (((n101 != 0) = true → R (.returned
    (.bool false)) w98) ∧ ((n101 != 0) = false → (((((l100 : Nat) : Int) != d_1) = true → R (.returned (.bool false)) w98) ∧ ((((l100 : Nat) : Int) != d_1) = false → SemW Tryz.prog (Instr.makeSlice 72 (.int .i64 d_1) (.int
    .i64 d_1)) (fun u104 w103 => ∃ (a105 : Option Addr) (l105 c105 : Nat), u104 = .slice a105 l105 c105 ∧ ∃ (I106 : Int → Int → World → Prop) (m106 : Int → Int → World → Nat), I106 0 0 w103 ∧ ∀ (n107 : Int) (n108 : Int)
    (w109 : World), I106 n107 n108 w109 → (((decide (n108 < ((i_n : Nat) : Int))) = true → (((decide (n108 < 200)) = true → ∀ w110, Grew w109 w110 → withSome i (fun d111 => (0 ≤ n108 ∧ n108 < (i_n : Nat)) ∧ ∃ (n112 :
    Int), w110.cell? (Addr.add d111 (n108.toNat * 1)) = some (.int .i64 n112) ∧ (((IntKind.u64.wrap d_1) = 0 → R (.panicked (divPanic Tryz.prog)) w110) ∧ ((IntKind.u64.wrap d_1) ≠ 0 → ∀ n113 : Int, n113 = Int.tmod
    (IntKind.u64.wrap n112) (IntKind.u64.wrap d_1) → ∃ (J114 : Int → World → Prop), (withSome a105 (fun d115 => (0 ≤ (IntKind.i64.wrap n113) ∧ (IntKind.i64.wrap n113) < (l105 : Nat)) ∧ ∃ (b116 : Bool), w110.cell?
    (Addr.add d115 ((IntKind.i64.wrap n113).toNat * 1)) = some (.bool b116) ∧ (((!b116) = true → withSome a105 (fun d117 => (0 ≤ (IntKind.i64.wrap n113) ∧ (IntKind.i64.wrap n113) < (l105 : Nat)) ∧ RoomAt w110 (Addr.add
    d117 ((IntKind.i64.wrap n113).toNat * 1)) 0 [.bool true] ∧ ∀ w118, w118 = setCells w110 (Addr.add d117 ((IntKind.i64.wrap n113).toNat * 1)) 0 [.bool true] → ∀ n119 : Int, n119 = IntKind.i64.wrap (n107 + 1) → J114 n119
    w118)) ∧ ((!b116) = false → J114 n107 w110)))) ∧ ∀ (n120 : Int) (w121 : World), J114 n120 w121 → ∀ n122 : Int, n122 = IntKind.i64.wrap ((1 : Int) + d_2) → ∀ n123 : Int, n123 = IntKind.i64.wrap (n122 +
    (IntKind.i64.wrap n113)) → CallsW Tryz.prog 25 [.int .i64 7, .int .i64 n123, .int .i64 0, .slice none 0 0] w121 (RetR R fun u125 w124 => ∃ (n126 : Int) (n127 : Int) (n128 : Int) (n129 : Int) (n130 : Int) (n131 : Int)
    (a132 : Option Addr) (l132 c132 : Nat) (a133 : Option Addr) (l133 c133 : Nat) (a134 : Option Addr) (l134 c134 : Nat), u125 = .agg #[.int .i64 n126, .int .i64 n127, .int .i64 n128, .int .i64 n129, .int .i64 n130, .int
    .i64 n131, .slice a132 l132 c132, .slice a133 l133 c133, .slice a134 l134 c134] ∧ CallsW Tryz.prog 13 [.pointer p9, .pointer p8, .agg #[.int .i64 n126, .int .i64 n127, .int .i64 n128, .int .i64 n129, .int .i64 n130,
    .int .i64 n131, .slice a132 l132 c132, .slice a133 l133 c133, .slice a134 l134 c134]] w124 (RetR R fun u137 w136 => ∃ (a138 : Option Addr) (l138 c138 : Nat) (n139 : Int), u137 = .tuple #[.slice a138 l138 c138, .int
    .i64 n139] ∧ CallsW Tryz.prog 21 [.pointer p9] w136 (RetR R fun u142 w141 => ∃ (a143 : Option Addr) (l143 c143 : Nat), u142 = .slice a143 l143 c143 ∧ ∀ w145, Grew w141 w145 → (((((l143 : Nat) : Int) != 1) = true → R
    (.returned (.bool false)) w145) ∧ ((((l143 : Nat) : Int) != 1) = false → withSome a143 (fun d146 => (0 ≤ (0 : Int) ∧ (0 : Int) < (l143 : Nat)) ∧ ∃ (n147 : Int), w145.cell? (Addr.add d146 4) = some (.int .i64 n147) ∧
    (((n147 != n120) = true → R (.returned (.bool false)) w145) ∧ ((n147 != n120) = false → withSome a143 (fun d148 => (0 ≤ (0 : Int) ∧ (0 : Int) < (l143 : Nat)) ∧ ∃ (b149 : Bool), w145.cell? (Addr.add d148 3) = some
    (.bool b149) ∧ (((!b149) = true → R (.returned (.bool false)) w145) ∧ ((!b149) = false → withSome a143 (fun d150 => (0 ≤ (0 : Int) ∧ (0 : Int) < (l143 : Nat)) ∧ ∃ (n151 : Int), w145.cell? d150 = some (.int .i64 n151)
    ∧ (((n151 != 3) = true → R (.returned (.bool false)) w145) ∧ ((n151 != 3) = false → withSome a143 (fun d152 => (0 ≤ (0 : Int) ∧ (0 : Int) < (l143 : Nat)) ∧ ∃ (n153 : Int), w145.cell? (Addr.add d152 1) = some (.int
    .i64 n153) ∧ (((n153 != 7) = true → R (.returned (.bool false)) w145) ∧ ((n153 != 7) = false → withSome a143 (fun d154 => (0 ≤ (0 : Int) ∧ (0 : Int) < (l143 : Nat)) ∧ ∃ (a155 : Option Addr) (l155 c155 : Nat),
    w145.cell? (Addr.add d154 2) = some (.slice a155 l155 c155) ∧ CallsW Tryz.prog 27 [.slice a155 l155 c155, .slice a42 l42 c42] w145 (RetR R fun u157 w156 => ∃ (b158 : Bool), u157 = .bool b158 ∧ SameB w145 w156
    [(Addr.add d154 2), (Addr.add d152 1), d150, (Addr.add d148 3), (Addr.add d146 4)] ∧ (((!b158) = true → R (.returned (.bool false)) w156) ∧ ((!b158) = false → (((decide (n120 < d_1)) = true → (((n139 != 0) = true → R
    (.returned (.bool false)) w156) ∧ ((n139 != 0) = false → (((((l138 : Nat) : Int) != 0) = true → R (.returned (.bool false)) w156) ∧ ((((l138 : Nat) : Int) != 0) = false → ∀ n160 : Int, n160 = IntKind.i64.wrap (n108 +
    1) → (I106 n120 n160 w156 ∧ m106 n120 n160 w156 < m106 n107 n108 w109)))))) ∧ ((decide (n120 < d_1)) = false → CallsW Tryz.prog 26 [.slice a138 l138 c138, .int .i64 n139, .int .i64 8, .int .i64 0] w156 (RetR R fun u162
    w161 => ∃ (n163 : Int) (n164 : Int) (n165 : Int) (n166 : Int) (n167 : Int) (n168 : Int) (a169 : Option Addr) (l169 c169 : Nat) (a170 : Option Addr) (l170 c170 : Nat) (a171 : Option Addr) (l171 c171 : Nat) (b172 :
    Bool), u162 = .tuple #[.agg #[.int .i64 n163, .int .i64 n164, .int .i64 n165, .int .i64 n166, .int .i64 n167, .int .i64 n168, .slice a169 l169 c169, .slice a170 l170 c170, .slice a171 l171 c171], .bool b172] ∧ ∀ w174,
    Grew w161 w174 → (((!b172) = true → R (.returned (.bool false)) w174) ∧ ((!b172) = false → CallsW Tryz.prog 27 [.slice a169 l169 c169, .slice a42 l42 c42] w174 (RetR R fun u176 w175 => ∃ (b177 : Bool), u176 = .bool
    b177 ∧ (((!b177) = true → R (.returned (.bool false)) w175) ∧ ((!b177) = false → ∀ n179 : Int, n179 = IntKind.i64.wrap (n108 + 1) → (I106 n120 n179 w175 ∧ m106 n120 n179 w175 < m106 n107 n108
    w109)))))))))))))))))))))))))))))))))) ∧ ((decide (n108 < 200)) = false → R (.returned (.bool true)) w109))) ∧ ((decide (n108 < ((i_n : Nat) : Int))) = false → R (.returned (.bool true)) w109)))
    w98)))))))))))))))))))))))))))))))
theorem sx4.ok {d_0 : Int} {d_1 : Int} {d_2 : Int} {d_3 : Option Addr} {d_3_n d_3_c : Nat} {d_4 : Int} {d_5 : Int} {d_6 : Int} {d_7 : Int} {d_8 : Option Addr} {d_8_n d_8_c : Nat} {d_9 : Int} {d_10 : Option Addr} {d_10_n d_10_c : Nat} {i : Option Addr} {i_n i_c : Nat} {p2 : Int} {R : Ending → World → Prop} {w : World} (h : sx4 d_0 d_1 d_2 d_3 d_3_n d_3_c d_4 d_5 d_6 d_7 d_8 d_8_n d_8_c d_9 d_10 d_10_n d_10_c i i_n i_c p2 R w) : CallsW Tryz.prog 4 [.agg #[.int .i64 d_0, .int .i64 d_1, .int .i64 d_2, .slice d_3 d_3_n d_3_c, .int .i64 d_4, .int .i64 d_5, .int .i64 d_6, .int .i64 d_7, .slice d_8 d_8_n d_8_c, .int .i64 d_9, .slice d_10 d_10_n d_10_c], .slice i i_n i_c, .int .i64 p2] w R :=
  callsW_of mix Tryz.func4 (by kernel_rfl) (by kernel_rfl) (Eq.mpr (by kernel_rfl : denFn Tryz.prog { locals := [3, 10, 13, 21], sem := [118], named := [55, 61, 63, 128, 137, 148, 154, 156], draws := [(9, { order := (.cons 0 (.cons 1 (.cons 2 (.cons 3 (.cons 4 (.cons 5 (.cons 6 (.cons 7 (.cons 8 (.cons 9 (.cons 10 (.cons 11 .nil)))))))))))), bars := [] }), (24, { order := (.cons 0 (.cons 1 (.cons 2 (.cons 3 (.cons 4 (.cons 5 (.cons 6 (.cons 7 (.cons 8 (.cons 9 (.cons 10 .nil))))))))))), bars := [8] }), (30, { order := (.cons 0 (.cons 1 (.cons 2 (.cons 3 (.cons 4 (.cons 5 (.cons 6 (.cons 7 (.cons 8 (.cons 9 (.cons 10 (.cons 11 (.cons 12 (.cons 13 (.cons 14 (.cons 15 (.cons 16 (.cons 17 (.cons 18 (.cons 19 (.cons 20 (.cons 21 (.cons 22 (.cons 23 (.cons 24 (.cons 25 (.cons 26 (.cons 27 (.cons 28 (.cons 29 (.cons 30 (.cons 31 (.cons 32 (.cons 33 (.cons 34 (.cons 35 (.cons 36 (.cons 37 (.cons 38 (.cons 39 (.cons 40 (.cons 41 .nil)))))))))))))))))))))))))))))))))))))))))), bars := [] })], loops := [(22, { slots := [(17, .int .i64), (18, .int .i64)], cells := [] })], cuts := [(28, { slots := [(17, .int .i64)], cells := [] })] } Tryz.f4 [.agg #[.int .i64 d_0, .int .i64 d_1, .int .i64 d_2, .slice d_3 d_3_n d_3_c, .int .i64 d_4, .int .i64 d_5, .int .i64 d_6, .int .i64 d_7, .slice d_8 d_8_n d_8_c, .int .i64 d_9, .slice d_10 d_10_n d_10_c], .slice i i_n i_c, .int .i64 p2] R w = sx4 d_0 d_1 d_2 d_3 d_3_n d_3_c d_4 d_5 d_6 d_7 d_8 d_8_n d_8_c d_9 d_10 d_10_n d_10_c i i_n i_c p2 R w) h)

theorem elBoolW : (Tryz.prog.info? 4).map (fun i => (i.zero, i.size, i.bytes)) = some (some (.bool false), Enc.boolE.sz, 1) := by kernel_rfl
structure DoneSt (w0 : World) (p : PlanV) (sx : SrcX) (s : SrcV) (X0 : WorkX) (a0 : AttV) (ba : Option Addr) (bn bc : Nat) (Bb : Nat) (r : Msg) (n : Int) (i : Int) (q : Nat) (w' : World) : Prop where
  i : i = q
  ex : ∃ (X : WorkX) (ap : List Int) (bl : List Bool), X.p = X0.p ∧ Pair2 w0 w' sx s X (W1 p { a0 with applied := ap }) ∧ (ap.Nodup ∧ ∀ k ∈ ap, k ∈ storesP p) ∧ n = (ap.length : Int) ∧ Own w' Bb 4 Enc.boolE ba bn bc bl ∧ bl.length = p.stores.toNat ∧ (∀ k : Nat, k < p.stores.toNat → bl[k]? = some (decide (1 + p.workers + (k : Int) ∈ ap))) ∧
    (∀ b, Blk ba b → ¬ WFoot X b ∧ ¬ sx.Foot b) ∧ r.At w' ∧ (∀ b, r.Blk b → ¬ WFoot X b ∧ ¬ Blk ba b ∧ b < w'.heap.size)
theorem addN_len {l : List Int} {k : Int} : ((addN l k).length : Int) = if k ∈ l then (l.length : Int) else l.length + 1 := by
  unfold addN; split <;> simp
theorem addN_mem {l : List Int} {k j : Int} : j ∈ addN l k ↔ j = k ∨ j ∈ l := by
  unfold addN
  split
  · rename_i h; constructor
    · exact .inr
    · rintro (rfl | h') <;> assumption
  · rw [List.mem_append]; simp [or_comm]

set_option maxHeartbeats 4000000 in
theorem WorkerDone_ok {x : CaseX} {oa : Option Addr} {on oc : Nat} {od : List Int} {early : Int} {w : World} (hx : CaseIn w x) (hr : Reads w (Enc.int .i64) (oa, on, oc) od) (hof : ∀ e ∈ od, -9223372036854775808 ≤ e ∧ e < 9223372036854775808) (hob : od.length * 8 ≤ 140737488351232) (he : (Lit.int .i64 early).wf = true) :
    CallsW Tryz.prog 4 [x.val, .slice oa on oc, .int .i64 early] w (Rets fun v w' => v = .bool true ∧ Grew w w') := by
  refine sx4.ok ?_
  unfold sx4
  have hon : on = od.length := hr.2.1
  obtain ⟨rs, hrs, hrf⟩ := hx.rl
  obtain ⟨fr, hfr⟩ := hx.fl
  subst hon
  have nb : ∀ {x y : World}, SameB x y [] := by intro x y; simp [SameB]
  intro w1 hg1
  refine awakeW_ok.use fun v w2 ⟨hv, hg2⟩ => ?_
  subst hv
  have hg2 := hg1.trans hg2
  refine ⟨_, rfl, fun h => (by cases h), fun _ => (ready_ok (off := x.off) (hx.plan.grew hg2) hx.ops (hrs.grew hg2) hrf (hfr.grew hg2)).use fun u w6 ⟨hg6, hc⟩ => ?_⟩
  have hg6' := hg2.trans hg6
  rcases hc with ⟨hb, hv⟩ | ⟨hgd, sx, s, X, a10, l10, c10, f, hv, P0, ho10, hap10, hE, hsp, hsl⟩
  · subst hv
    refine ⟨_, _, _, _, _, rfl, fun _ => (PCheck_ok (hx.plan.grew hg6')).use fun u w12 ⟨hv, hg12⟩ => ?_, fun h => (by cases h)⟩
    subst hv
    refine ⟨_, rfl, _, rfl, ?_, hg6'.trans hg12⟩
    have : checkP x.p.c ≠ 0 := fun h => by rw [checkP_good.1 h] at hb; cases hb
    simp [this]
  subst hv
  have hG := goodP_iff.1 hgd
  have hfit := P0.src.fits
  have hSt := hG.stores; have hWk := hG.workers
  obtain ⟨hf1, hf2⟩ := ends_256 hfit hE
  have ht1 := take_new hG hfit hE
  have hnA := newA_is (s := s) (f := f) hG hE (V := W0 x.p.c) rfl 7 1
  refine ⟨_, _, _, _, _, rfl, fun h => (by cases h), fun _ w16 hg16 => ?_⟩
  have P16 := P0.more hg16
  refine msgK_ok.use fun u w17 ⟨hv, hg17⟩ => ?_
  subst hv
  refine ⟨_, _, _, _, _, _, _, _, _, _, _, _, _, _, _, rfl, ?_⟩
  have P17 := P16.more hg17
  have ho17 := (ho10.grew hg16).grew hg17
  refine (play_ok (m := ⟨msgK 1 0 0 f, (a10, l10, c10), (none, 0, 0), (none, 0, 0)⟩) P17 ⟨ho17.reads, Reads.nil, Reads.nil⟩ (by simp only [msgK]; omega) (by simp [msgK]) (by simp [msgK])).use fun u w29 ⟨a31, l31, c31, X1, xs1, hv, P1⟩ => ?_
  rw [show (⟨x.p.c, 1, []⟩ : WorkV) = W0 x.p.c from rfl] at hv P1
  rw [ht1] at hv P1
  subst hv
  generalize hA : (W0 x.p.c).newA s (msgK 1 0 0 f) = a at P1
  have ha : a = ⟨7, toV s x.p.c.batch f, dealP x.p.c.stores (tableT (bAll x.p.c.ops x.p.c.agg (btwV s f (toV s x.p.c.batch f) f.length)).1), false, []⟩ := hA.symm.trans hnA
  generalize hto : toV s x.p.c.batch f = to at P1 ha
  have hto4 : (1 ≤ to.length ∧ to.length ≤ 4) ∧ ∀ e ∈ to, 0 ≤ e ∧ e ≤ 256 := by
    rw [← hto]
    exact ⟨by rw [toV_len]; exact hf1, toV_256 hfit hG.batch.1 hE⟩
  obtain ⟨r, hr1, hrc, hone⟩ := one_ok (kind := 2) (to := 0) P1.out.own.own.reads P1.is rfl rfl rfl rfl rfl
  subst hr1
  refine ⟨_, _, _, _, rfl, hone.use fun u w34 ⟨hv, hg34⟩ => ?_⟩
  subst hv
  refine ⟨_, _, _, _, _, _, _, _, _, _, _, _, _, _, _, _, rfl, fun w47 hg47 w48 hg48 n49 h49 => ?_⟩
  have hgk := hg34.trans (hg47.trans hg48)
  have P48 := P1.pair.more hgk
  have O48 := P1.out.more hgk
  have hu1 : IntKind.u64.wrap x.p.c.stores = x.p.c.stores := by rw [IntKind.wrap_u64]; omega
  rw [hu1]
  refine ⟨fun h => (by omega), fun _ n50 h50 => ⟨nb, fun n51 h51 => ?_⟩⟩
  have hue : 0 ≤ IntKind.u64.wrap early := by rw [IntKind.wrap_u64]; omega
  have t0 := Int.tmod_nonneg x.p.c.stores hue
  have t1 := Int.tmod_lt_of_pos (IntKind.u64.wrap early) (show (0 : Int) < x.p.c.stores by omega)
  obtain ⟨ei, hei⟩ : ∃ ei : Nat, n50 = (ei : Int) := ⟨n50.toNat, by omega⟩
  have heis : ei < x.p.c.stores.toNat := by omega
  have e51 : n51 = 1 + x.p.c.workers + (ei : Int) := by rw [h51, h49, hei, IntKind.wrap_i64, IntKind.wrap_i64, IntKind.wrap_i64]; omega
  subst e51
  have hab : a.begun = false := by rw [ha]
  have haa : a.applied = [] := by rw [ha]
  have han : a.number = 7 := by rw [ha]
  refine msgK_ok.use fun u w52 ⟨hv, hg52⟩ => ?_
  subst hv
  refine ⟨_, _, _, _, _, _, _, _, _, _, _, _, _, _, _, rfl, ?_⟩
  rw [← P1.p]
  have e1 := take_early (s := s) hG hab (k := 7) (.inr rfl) heis
  refine (play_ok (m := ⟨msgK 7 (1 + x.p.c.workers + (ei : Int)) 0 [], (none, 0, 0), (none, 0, 0), (none, 0, 0)⟩) (P48.more hg52) ⟨Reads.nil, Reads.nil, Reads.nil⟩ (by simp [msgK]) (by simp [msgK]) (by simp [msgK])).use fun u w64 ⟨a66, l66, c66, X2, xs2, hv, P2⟩ => ?_
  rw [e1] at hv P2
  subst hv
  have hl66 : l66 = 0 := by have h1 := P2.new.own.len; have := congrArg List.length P2.is; simp at this; rw [h1, this]; rfl
  have O64 := (O48.more hg52).play P2.upd P2.foot
  refine ⟨_, _, _, _, rfl, fun h => (by cases h), fun _ => ⟨fun h => (by cases h), fun _ => ⟨fun h => (by rw [hl66] at h; cases h), fun _ => ?_⟩⟩⟩
  refine msgK_ok.use fun u w69 ⟨hv, hg69⟩ => ?_
  subst hv
  refine ⟨_, _, _, _, _, _, _, _, _, _, _, _, _, _, _, rfl, ?_⟩
  rw [← P2.p]
  have e2 := take_early (s := s) hG hab (k := 5) (.inl rfl) heis
  refine (play_ok (m := ⟨msgK 5 (1 + x.p.c.workers + (ei : Int)) 0 [], (none, 0, 0), (none, 0, 0), (none, 0, 0)⟩) (P2.pair.more hg69) ⟨Reads.nil, Reads.nil, Reads.nil⟩ (by simp [msgK]) (by simp [msgK]) (by simp [msgK])).use fun u w81 ⟨a83, l83, c83, X3, xs3, hv, P3⟩ => ?_
  rw [e2] at hv P3
  subst hv
  have hl83 : l83 = 0 := by have h1 := P3.new.own.len; have := congrArg List.length P3.is; simp at this; rw [h1, this]; rfl
  have O81 := (O64.more hg69).play P3.upd P3.foot
  refine ⟨_, _, _, _, rfl, fun h => (by cases h), fun _ => ⟨fun h => (by rw [hl83] at h; cases h), fun _ => ?_⟩⟩
  refine msgK_ok.use fun u w86 ⟨hv, hg86⟩ => ?_
  subst hv
  refine ⟨_, _, _, _, _, _, _, _, _, _, _, _, _, _, _, rfl, ?_⟩
  rw [← P3.p]
  have hae : a.ends = to := by rw [ha]
  have hre : r.c.ends = to := by rw [hrc]
  have e3 := take_go (s := s) hG han hab (by rw [hae]; exact hto4.1) (by rw [hae]; exact hto4.2)
  have rAt : ∀ {y : World} {Xa : WorkX} {aa : Option Addr} {n c : Nat}, Out y Xa aa n c [r] → r.At y := fun h => (h.own.each r (by simp)).at
  refine (play_ok (m := ⟨msgK 3 0 0 a.ends, r.e, (none, 0, 0), (none, 0, 0)⟩) (P3.pair.more hg86) ⟨by have := (rAt (O81.more hg86)).e; rw [hre] at this; simp only [msgK]; rw [hae]; exact this, Reads.nil, Reads.nil⟩ (by simp only [msgK]; rw [hae]; omega) (by simp [msgK]) (by simp [msgK])).use fun u w98 ⟨a100, l100, c100, X4, xs4, hv, P4⟩ => ?_
  rw [e3] at hv P4
  subst hv
  have hl100 : (l100 : Int) = x.p.c.stores := by have h1 := P4.new.own.len; have := congrArg List.length P4.is; simp at this; rw [h1, this]; omega
  have O98 := (O81.more hg86).play P4.upd P4.foot
  refine ⟨_, _, _, _, rfl, fun h => (by cases h), fun _ => ⟨fun h => (by rw [hl100] at h; simp at h), fun _ => ?_⟩⟩
  have hsn : x.p.c.stores = (x.p.c.stores.toNat : Int) := by omega
  have mk : SemW Tryz.prog (Instr.makeSlice 72 (.int .i64 (x.p.c.stores.toNat : Int)) (.int .i64 (x.p.c.stores.toNat : Int))) = SemW Tryz.prog (Instr.makeSlice 72 (.int .i64 x.p.c.stores) (.int .i64 x.p.c.stores)) := by rw [← hsn]
  rw [← mk]
  refine make_own (e := 4) (E := Enc.boolE) (x := false) (z := .bool false) (bytes := 1) (by kernel_rfl) elBoolW rfl (by omega) (by simp only [maxLen]; omega) ?_
  rintro v w103 ⟨a105, l105, c105, rfl, ho103, hg103⟩
  have hl105 : l105 = x.p.c.stores.toNat := by rw [ho103.len]; simp
  have s98 := P4.pair.src
  have G98 : Grew w w98 := hg2.trans P4.pair.grew
  have sX4 : ∀ b, WFoot X4 b → b < w98.heap.size := fun b hb => (P4.pair.wrk.foot hb).2
  have sS : ∀ b, sx.Foot b → b < w98.heap.size := fun b hb => (s98.foot hb).2
  have sB : ∀ b, Blk a105 b → w98.heap.size ≤ b := fun b hb => (ho103.blk hb).1
  have sR : ∀ b, r.Blk b → b < w98.heap.size := fun b hb => ((O98.own.each r (by simp)).blk hb).2
  refine ⟨_, _, _, rfl, fun n i w' => ∃ q, DoneSt w2 x.p.c sx s X4 { a with begun := true } a105 l105 c105 w98.heap.size r n i q w' ∧ q ≤ od.length, fun _ i _ => od.length - i.toNat, ⟨0, ⟨rfl, X4, a.applied, _, rfl, P4.pair.more hg103, by rw [haa]; exact ⟨List.nodup_nil, by simp⟩, by rw [haa]; rfl, ho103, by simp, fun k hk => by rw [List.getElem?_replicate, if_pos hk, haa]; simp, fun b hb => ⟨fun h => by have := sX4 b h; have := sB b hb; omega, fun h => by have := sS b h; have := sB b hb; omega⟩, (rAt O98).grew hg103, fun b hb => ⟨O98.x r (by simp) b hb, fun h => by have := sR b hb; have := sB b h; omega, by have := sR b hb; have := hg103.size; omega⟩⟩, Nat.zero_le _⟩, ?_⟩
  rintro n107 n108 w109 ⟨q, ⟨rfl, X5, ap, bl, hp5, P5, hap, rfl, hob, hbl, hbi, hdis, hrA, hrB⟩, hq⟩
  refine ⟨fun hlt => ⟨fun h200 w110 hg110 => ?_, fun _ => ⟨_, rfl, rfl, hg2.trans P5.grew⟩⟩, fun _ => ⟨_, rfl, rfl, hg2.trans P5.grew⟩⟩
  simp only [decide_eq_true_eq] at hlt h200
  have hw : IntKind.i64.wrap ((q : Int) + 1) = ((q + 1 : Nat) : Int) := by rw [IntKind.wrap_i64]; omega
  have P110 := P5.more hg110
  obtain ⟨d, e, rfl, hek, hec⟩ := (hr.grew (hg2.trans P110.grew)).at0 (k := q) (by omega)
  refine ⟨⟨by omega, by omega⟩, _, i64cell hec, fun h => (by omega), fun _ n113 h113 => ?_⟩
  have hu2 : 0 ≤ IntKind.u64.wrap e := by rw [IntKind.wrap_u64]; omega
  have t2 := Int.tmod_nonneg x.p.c.stores hu2
  have t3 := Int.tmod_lt_of_pos (IntKind.u64.wrap e) (show (0 : Int) < x.p.c.stores by omega)
  obtain ⟨k, hk⟩ : ∃ k : Nat, n113 = (k : Int) := ⟨n113.toNat, by omega⟩
  have hks : k < x.p.c.stores.toNat := by omega
  have wk : IntKind.i64.wrap n113 = (k : Int) := by rw [hk, IntKind.wrap_i64]; omega
  rw [wk]
  have hmem : 1 + x.p.c.workers + (k : Int) ∈ storesP x.p.c := storesP_mem.2 ⟨k, hks, rfl⟩
  have hap' := addN_ok hap hmem
  have hapl := nodup_len hap'
  have hl4 : (addN ap (1 + x.p.c.workers + (k : Int))).length ≤ 4 := by omega
  have ho110 := hob.grew hg110
  -- behind the marking of the store
  refine ⟨fun n' w' => n' = ((addN ap (1 + x.p.c.workers + (k : Int))).length : Int) ∧ ∃ bl', Own w' w98.heap.size 4 Enc.boolE a105 l105 c105 bl' ∧ bl'.length = x.p.c.stores.toNat ∧ (∀ j : Nat, j < x.p.c.stores.toNat → bl'[j]? = some (decide (1 + x.p.c.workers + (j : Int) ∈ addN ap (1 + x.p.c.workers + (k : Int))))) ∧ Upd (Blk a105) w110 w', ?_, ?_⟩
  · obtain ⟨db, b, hdb, hbk, hbc⟩ := ho110.reads.at0 (k := k) (by omega)
    have hbb : b = decide (1 + x.p.c.workers + (k : Int) ∈ ap) := by have := hbi k hks; rw [this] at hbk; exact (Option.some.inj hbk).symm
    have hbcell : w110.cell? (Addr.add db (((k : Nat) : Int).toNat * 1)) = some (.bool b) := by
      have := cellsAt_get hbc 0 _ rfl
      simpa [Enc.boolE, Addr.add_zero'] using this
    rw [hdb]
    refine ⟨⟨by omega, by omega⟩, _, hbcell, fun hnb => ?_, fun hyb => ?_⟩
    · have hb0 : b = false := by simpa using hnb
      have hni : ¬ 1 + x.p.c.workers + (k : Int) ∈ ap := by rw [hb0] at hbb; exact of_decide_eq_false hbb.symm
      obtain ⟨g, hag, hroom, hset, hub⟩ := ho110.set (i := k) (by omega) true
      rw [hdb] at hag; cases hag
      refine ⟨⟨by omega, by omega⟩, by simpa [Enc.boolE] using hroom, ?_⟩
      rintro w118 rfl n119 h119
      refine ⟨?_, bl.set k true, by rw [← hdb]; simpa [Enc.boolE] using hset, by rw [List.length_set]; exact hbl, fun j hj => ?_, by rw [← hdb]; simpa [Enc.boolE] using hub⟩
      · rw [addN_len, if_neg hni, h119, IntKind.wrap_i64]; have := nodup_len hap; omega
      · rw [List.getElem?_set]
        by_cases hkj : k = j
        · subst hkj; rw [if_pos rfl, if_pos (by omega)]; simp [addN_mem]
        · rw [if_neg hkj, hbi j hj]
          congr 1
          apply decide_eq_decide.2
          rw [addN_mem]
          exact ⟨.inr, fun h => h.elim (fun h => by omega) id⟩
    · have hb1 : b = true := by simpa using hyb
      have hi : 1 + x.p.c.workers + (k : Int) ∈ ap := by rw [hb1] at hbb; exact of_decide_eq_true hbb.symm
      have hsame : addN ap (1 + x.p.c.workers + (k : Int)) = ap := by unfold addN; rw [if_pos hi]
      rw [hsame]
      exact ⟨rfl, bl, by rw [← hdb]; exact ho110, hbl, hbi, Upd.refl _ _⟩
  rintro n120 w121 ⟨rfl, bl', ho121, hbl', hbi', hu121⟩ n122 h122 n123 h123
  have e123 : n123 = 1 + x.p.c.workers + (k : Int) := by rw [h123, h122, IntKind.wrap_i64, IntKind.wrap_i64]; omega
  subst e123
  have P121 : Pair2 w2 w121 sx s X5 (W1 x.p.c { { a with begun := true } with applied := ap }) := ⟨P110.src.upd hu121 fun b hb hb' => (hdis b hb').2 hb, P110.wrk.upd hu121 fun b hb hb' => (hdis b hb').1 hb, P110.apart, P110.grew.then_own hu121 fun b hb => by have := (ho110.blk hb).1; have := P4.pair.grew.size; omega⟩
  have rA121 := (hrA.grew hg110).upd hu121 fun b hb hb' => (hrB b hb).2.1 hb'
  refine msgK_ok.use fun u w124 ⟨hv, hg124⟩ => ?_
  subst hv
  refine ⟨_, _, _, _, _, _, _, _, _, _, _, _, _, _, _, rfl, ?_⟩
  rw [← P4.p, ← hp5]
  have e5 := take_done (s := s) (a := { { a with begun := true } with applied := ap }) hG han rfl hks
  refine (play_ok (m := ⟨msgK 7 (1 + x.p.c.workers + (k : Int)) 0 [], (none, 0, 0), (none, 0, 0), (none, 0, 0)⟩) (P121.more hg124) ⟨Reads.nil, Reads.nil, Reads.nil⟩ (by simp [msgK]) (by simp [msgK]) (by simp [msgK])).use fun u w136 ⟨a138, l138, c138, X6, xs6, hv, P6⟩ => ?_
  rw [e5] at hv P6
  subst hv
  have ho136 := (ho121.grew hg124).upd P6.upd fun b hb => (hdis b hb).1
  have rA136 := (rA121.grew hg124).upd P6.upd fun b hb => (hrB b hb).1
  have z110 := hg110.size; have z121 := hu121.size; have z124 := hg124.size; have z136 := P6.upd.size
  have dis6 : ∀ b, Blk a105 b → ¬ WFoot X6 b ∧ ¬ sx.Foot b := fun b hb => ⟨fun h => (P6.foot b h).elim (hdis b hb).1 (fun h => by have := (ho121.blk hb).2; omega), (hdis b hb).2⟩
  have rB6 : ∀ b, r.Blk b → ¬ WFoot X6 b ∧ ¬ Blk a105 b ∧ b < w136.heap.size := fun b hb => ⟨fun h => (P6.foot b h).elim (hrB b hb).1 (fun h => by have := (hrB b hb).2.2; omega), (hrB b hb).2.1, by have := (hrB b hb).2.2; omega⟩
  refine ⟨_, _, _, _, rfl, ?_⟩
  rw [← P6.p]
  refine (WHeld_ok P6.pair.wrk (by simp [W1])).use fun u w141 ⟨a143, l143, c143, hs, hv, hO, hh, hg141⟩ => ?_
  rw [tell_W1] at hh
  subst hv
  obtain ⟨h0, rfl, hh0⟩ : ∃ h0 : HeldX, hs = [h0] ∧ h0.c = heldOf 3 { { a with begun := true } with applied := addN ap (1 + x.p.c.workers + (k : Int)) } := by
    match hs, hh with
    | [h], hh => exact ⟨h, rfl, by simpa using hh⟩
    | [], hh => simp at hh
    | _ :: _ :: _, hh => simp at hh
  have hl143 : l143 = 1 := hO.own.len
  subst hl143
  refine ⟨_, _, _, rfl, fun w145 hg145 => ⟨fun h => (by cases h), fun _ => ?_⟩⟩
  have hO145 := hO.grew hg145
  obtain ⟨dh, y, rfl, hy, hyc⟩ := hO145.own.reads.at0 (k := 0) (by omega)
  cases hy
  obtain ⟨c0, c1, c2, c3, c4⟩ := held_cells hyc
  simp only [Int.ofNat_zero, Int.toNat_zero, Nat.zero_mul, Addr.add_zero', Int.natCast_zero] at c0 c1 c2 c3 c4
  rw [hh0] at c0 c1 c3 c4
  have bd : (0 : Int) ≤ (0 : Int) ∧ (0 : Int) < ((1 : Nat) : Int) := by omega
  refine ⟨bd, _, c4, fun h => (by simp [heldOf] at h), fun _ => ⟨bd, _, c3, fun h => (by cases h), fun _ => ⟨bd, _, c0, fun h => (by cases h), fun _ => ⟨bd, _, c1, fun h => (by simp [heldOf, han] at h), fun _ => ⟨bd, _, _, _, c2, ?_⟩⟩⟩⟩⟩
  have hEe := (hO145.each h0 (by simp)).reads
  have hye : h0.c.ends = to := by rw [hh0]; exact hae
  have rA145 := (rA136.grew hg141).grew hg145
  refine (ints_ok hEe rA145.e (by rw [hye]; omega)).use fun u w156 ⟨hv, hg156⟩ => ?_
  rw [hye, hre] at hv
  subst hv
  have b1 := hg156.block _ (World.block_lt_of_cell? w145 _ c0)
  have sb : SameB w145 w156 [Addr.add dh 2, Addr.add dh 1, dh, Addr.add dh 3, Addr.add dh 4] := by
    simp only [SameB, add_block, and_true]; exact ⟨b1, b1, b1, b1, b1⟩
  have hgz := hg141.trans (hg145.trans hg156)
  have hnext : DoneSt w2 x.p.c sx s X4 { a with begun := true } a105 l105 c105 w98.heap.size r ((addN ap (1 + x.p.c.workers + (k : Int))).length : Int) ((q + 1 : Nat) : Int) (q + 1) w156 :=
    ⟨rfl, X6, _, bl', P6.p.trans hp5, P6.pair.more hgz, hap', rfl, ho136.grew hgz, hbl', hbi', dis6, rA136.grew hgz, fun b hb => ⟨(rB6 b hb).1, (rB6 b hb).2.1, by have := (rB6 b hb).2.2; have := hgz.size; omega⟩⟩
  refine ⟨_, rfl, sb, fun h => (by simp at h), fun _ => ⟨fun hlt2 => ?_, fun hge2 => ?_⟩⟩
  · simp only [decide_eq_true_eq] at hlt2
    have h6 : xs6.map (·.c) = [] := by rw [P6.is]; exact if_pos hlt2
    have hl138 : l138 = 0 := by rw [P6.new.own.len]; simpa using congrArg List.length h6
    refine ⟨fun h => (by cases h), fun _ => ⟨fun h => (by rw [hl138] at h; cases h), fun _ n160 h160 => ?_⟩⟩
    rw [h160, hw]
    exact ⟨⟨q + 1, hnext, by omega⟩, by show od.length - (((q + 1 : Nat) : Int)).toNat < od.length - ((q : Int)).toNat; omega⟩
  · simp only [decide_eq_false_iff_not] at hge2
    have h6 : xs6.map (·.c) = [⟨8, 1, 0, 3, 7, 0, to, [], []⟩] := by rw [P6.is]; rw [if_neg hge2]; simp only; rw [hae]
    have O156 := P6.out.more hgz
    obtain ⟨r6, hr6, hr6c, hone6⟩ := one_ok (kind := 8) (to := 0) O156.own.own.reads h6 rfl rfl rfl rfl rfl
    subst hr6
    refine hone6.use fun u w161 ⟨hv, hg161⟩ => ?_
    subst hv
    refine ⟨_, _, _, _, _, _, _, _, _, _, _, _, _, _, _, _, rfl, fun w174 hg174 => ⟨fun h => (by cases h), fun _ => ?_⟩⟩
    have hg174' := hg161.trans hg174
    have A6 := ((O156.own.each r6 (by simp)).at.grew hg174').e
    rw [hr6c] at A6
    have R6 := ((rA136.grew hgz).grew hg174').e
    rw [hre] at R6
    refine (ints_ok A6 R6 (by show to.length ≤ _; omega)).use fun u w175 ⟨hv, hg175⟩ => ?_
    subst hv
    refine ⟨_, rfl, fun h => (by simp at h), fun _ n179 h179 => ?_⟩
    rw [h179, hw]
    have hg' := hg174'.trans hg175
    refine ⟨⟨q + 1, ⟨rfl, X6, _, bl', P6.p.trans hp5, (P6.pair.more hgz).more hg', hap', rfl, (ho136.grew hgz).grew hg', hbl', hbi', dis6, (rA136.grew hgz).grew hg', fun b hb => ⟨(rB6 b hb).1, (rB6 b hb).2.1, by have := (rB6 b hb).2.2; have := hgz.size; have := hg'.size; omega⟩⟩, by omega⟩, by show od.length - (((q + 1 : Nat) : Int)).toNat < od.length - ((q : Int)).toNat; omega⟩
open Go.ChangeShapes Go.WideShapes Go.ChangeAt Go.RowKit
set_option maxRecDepth 100000 in
theorem workerDone_lifted (os : Os) (started : os.Started) (H : Type) (enc : TypeId × Value → H) :
    ReturnsInHanded {} Tryz.checked os 4 .any (Rows.workerDoneSpec.pre6 enc Tryz.prog Tryz.f4 Rows.workerDoneRow.domain false) (Rows.workerDoneSpec.post enc Tryz.prog Tryz.f4 false true false false) := by
  refine returnsInHanded_of_change_sized (C := Tryz.checked) (by kernel_rfl) started (by kernel_rfl) Tryz.func4
    (ChangeSpec.witness6 (enc := enc) (C := Tryz.checked) false ⟨#[], #[.agg #[.int .i64 0, .int .i64 0, .int .i64 0, .slice none 0 0, .int .i64 0, .int .i64 0, .int .i64 0, .int .i64 0, .slice none 0 0, .int .i64 0, .slice none 0 0], .slice none 0 0, .int .i64 0], []⟩ 8 (by kernel_rfl) (by kernel_rfl) (by kernel_rfl) (by kernel_rfl)) ?_
  intro W base args ds gs before hval0 hW hcnd hsz0 _
  have hval : ∀ (j : Nat) t v, Tryz.f4.params[j]? = some t → args[j]? = some v → Value.okWide Tryz.prog W .any base t v := hval0
  have hW' := hW
  obtain ⟨p, q, hA0, hV, rfl, hfz, hnd⟩ := hW
  have hA : DataW.TrodAll enc Tryz.prog W 0 (fun _ => true) true Tryz.f4.params.toList args.toList ds p := hA0
  have hsz : (DataW.weightsEach Tryz.prog (Tryz.f4.params.toList ++ _) (ds ++ gs)).all (· ≤ reachBytes) = true := hsz0
  rw [show Tryz.f4.params = #[64, 44, 3] from by kernel_rfl] at hA hval hsz
  have hA1 := hA
  obtain ⟨v0, vs0, d0, ds0, p0, q0, hargs, rfl, rfl, h0, r0⟩ := trodAll_cons hA
  obtain ⟨v1, vs1, d1, ds1, p1, q1, rfl, rfl, rfl, h1, r1⟩ := trodAll_cons r0
  obtain ⟨v2, vs2, d2, ds2, p2, q2, rfl, rfl, rfl, h2, r2⟩ := trodAll_cons r1
  obtain ⟨rfl, rfl, rfl⟩ := trodAll_nil r2
  obtain rfl : args = #[v0, v1, v2] := by cases args; simp_all
  obtain ⟨x0, rfl, hx0⟩ := openCase (j := 0) hsz rfl rfl (hval 0 64 v0 rfl rfl) h0
  obtain ⟨a1, n1, c1, l1, rfl, hr1, hcl1, hn1, hs1⟩ := open_flat (P := Tryz.prog) (t := 44) (e := 3) (by kernel_rfl) i64_kindsW (by kernel_rfl) (hval 1 44 v1 rfl rfl) h1 (E := encIW) rfl i64_ofW
  have hb1 : l1.length * 8 ≤ 140737488351232 := by have h1 := sized_len hsz (j := 1) (t := 44) (e := 3) rfl rfl (by kernel_rfl) (B := 8) (by kernel_rfl) hs1; have h2 := hr1.2.1; simp only at h2; omega
  obtain ⟨x2, rfl, hcl2⟩ := Go.Sx.open_int (P := Tryz.prog) (k := .i64) (t := 3) (by kernel_rfl) (hval 2 3 v2 rfl rfl) h2
  clear hA0 hA1 hval0 hsz0
  refine (CallsW.calls ⟨_, Tryz.func4, by kernel_rfl, by kernel_rfl⟩ (WorkerDone_ok hx0 hr1 hcl1 hb1 hcl2)).mono fun e W' ⟨w', hh, hk, v, he, hv, hg⟩ => ?_
  subst he; subst hv
  exact ⟨_, rfl, post_true (tb := 4) (by kernel_rfl) rfl (by kernel_rfl) (by kernel_rfl) ⟨rfl, rfl, rfl⟩ (by decide +kernel) hW' (below_of hg hh hk)⟩

theorem workerDone_holds : Rows.WorkerDoneSaid :=
  OpenClaim.holds_of_wide 4 Tryz.f4 rfl rfl rfl rfl rfl rfl rfl ⟨rfl, rfl, rfl, rfl, rfl⟩ rfl rfl rfl rfl rfl (by kernel_rfl) Tryz.func4 (by kernel_rfl)
    (of_decide_eq_true (by kernel_rfl)) (by unfold Func.isWrapper; first | (rw [if_pos (by decide +kernel)]; kernel_rfl) | (rw [if_neg (by decide +kernel)]; exact ⟨rfl, rfl⟩))
    (fun os started H enc _ => workerDone_lifted os started H enc)
end Go.Proofs.YtcpkneemhfnanaaGreat
