/- What bucket's small functions hand back: word, cellBytes, inOrder, isValue. Conditions: none. -/
import Derived.Test.YtnbknhcpjggabaaProg
import Derived.Test.YtnbknhcpjggabaaSxS
import Derived.Test.YtnbknhcpjggabaaWire
import Derived.Test.YtnbknhcpjggabaaSlices
namespace Go.Proofs.Ytnbknhcpjggabaa
open Go.Sx
set_option maxRecDepth 100000
set_option linter.unusedVariables false
set_option linter.unusedSimpArgs false
/- reprise/bucket.word -/
def sx44 (v_0 : Bool) (v_1 : Int) (R : Ending → World → Prop) (w : World) : Prop :=
  ∀ w1, Grew w w1 → (((!v_0) = true → R (.returned (.slice none 0 0)) w1) ∧ ((!v_0) = false → CallsW Try.prog 54 [.int .u64 v_1] w1 (RetR R fun u3 w2 => ∃ (a4 : Option Addr) (l4 c4 : Nat), u3 = .slice a4 l4 c4 ∧ R
    (.returned (.slice a4 l4 c4)) w2)))
theorem sx44.ok {v_0 : Bool} {v_1 : Int} {R : Ending → World → Prop} {w : World} (h : sx44 v_0 v_1 R w) : CallsW Try.prog 44 [.agg #[.bool v_0, .int .u64 v_1]] w R :=
  callsW_of mix Try.func44 (by kernel_rfl) (by kernel_rfl) (Eq.mpr (by kernel_rfl : denFn Try.prog { locals := [1] } Try.f44 [.agg #[.bool v_0, .int .u64 v_1]] R w = sx44 v_0 v_1 R w) h)

/- reprise/bucket.cellBytes -/
def sx25 (c_0 : Int) (c_1 : Bool) (c_2 : Int) (c_3 : Bool) (c_4 : Int) (c_5 : Int) (R : Ending → World → Prop) (w : World) : Prop :=
  ∀ w1, Grew w w1 → ((c_1 = true → ((c_3 = true → ∀ n2 : Int, n2 = Go.bits .or .u8 (Go.bits .or .u8 0 1) 2 → ∀ w3, Grew w1 w3 → ((CallsW Try.prog 22 [.int .u64 c_0] w3 (Ret (fun u5 w4 => ∃ (a6 : Option Addr) (l6 c6 : Nat),
    u5 = .slice a6 l6 c6 ∧ SameB w3 w4 [] ∧ ((∀ (b8 : Nat) (w9 : World), Alloc w4 w9 b8 (.cells #[.int .u8 n2] 5) → SameB w4 w9 [] ∧ CallsW Try.prog 44 [.agg #[.bool c_1, .int .u64 c_2]] w9 (Ret (fun u11 w10 => ∃ (a12 :
    Option Addr) (l12 c12 : Nat), u11 = .slice a12 l12 c12 ∧ SameB w9 w10 [] ∧ CallsW Try.prog 44 [.agg #[.bool c_3, .int .u64 c_4]] w10 (Ret (fun u15 w14 => ∃ (a16 : Option Addr) (l16 c16 : Nat), u15 = .slice a16 l16 c16
    ∧ SameB w10 w14 [] ∧ CallsW Try.prog 22 [.int .u64 (IntKind.u64.wrap c_5)] w14 (Ret (fun u19 w18 => ∃ (a20 : Option Addr) (l20 c20 : Nat), u19 = .slice a20 l20 c20 ∧ SameB w14 w18 [] ∧ ∀ (b22 : Nat) (w23 : World),
    Alloc w18 w23 b22 (.cells #[.slice a6 l6 c6, .slice (some ⟨b8, 0, none⟩) 1 1, .slice a12 l12 c12, .slice a16 l16 c16, .slice a20 l20 c20] 24) → SameB w18 w23 [] ∧ CallsW Try.prog 43 [.slice (some ⟨b22, 0, none⟩) 5 5]
    w23 (Ret (fun u25 w24 => ∃ (a26 : Option Addr) (l26 c26 : Nat), u25 = .slice a26 l26 c26 ∧ SameB w23 w24 [] ∧ R (.returned (.slice a26 l26 c26)) w24) (fun c27 w24 => False))) (fun c21 w18 => False))) (fun c17 w14 =>
    False))) (fun c13 w10 => False))) ∧ (CallsW Try.prog 44 [.agg #[.bool c_1, .int .u64 c_2]] w4 (Ret (fun u29 w28 => ∃ (a30 : Option Addr) (l30 c30 : Nat), u29 = .slice a30 l30 c30 ∧ SameB w4 w28 [] ∧ ((∀ (b32 : Nat)
    (w33 : World), Alloc w28 w33 b32 (.cells #[.int .u8 n2] 5) → SameB w28 w33 [] ∧ CallsW Try.prog 44 [.agg #[.bool c_3, .int .u64 c_4]] w33 (Ret (fun u35 w34 => ∃ (a36 : Option Addr) (l36 c36 : Nat), u35 = .slice a36
    l36 c36 ∧ SameB w33 w34 [] ∧ CallsW Try.prog 22 [.int .u64 (IntKind.u64.wrap c_5)] w34 (Ret (fun u39 w38 => ∃ (a40 : Option Addr) (l40 c40 : Nat), u39 = .slice a40 l40 c40 ∧ SameB w34 w38 [] ∧ ∀ (b42 : Nat) (w43 :
    World), Alloc w38 w43 b42 (.cells #[.slice a6 l6 c6, .slice (some ⟨b32, 0, none⟩) 1 1, .slice a30 l30 c30, .slice a36 l36 c36, .slice a40 l40 c40] 24) → SameB w38 w43 [] ∧ CallsW Try.prog 43 [.slice (some ⟨b42, 0,
    none⟩) 5 5] w43 (Ret (fun u45 w44 => ∃ (a46 : Option Addr) (l46 c46 : Nat), u45 = .slice a46 l46 c46 ∧ SameB w43 w44 [] ∧ R (.returned (.slice a46 l46 c46)) w44) (fun c47 w44 => False))) (fun c41 w38 => False))) (fun
    c37 w34 => False))) ∧ (CallsW Try.prog 44 [.agg #[.bool c_3, .int .u64 c_4]] w28 (Ret (fun u49 w48 => ∃ (a50 : Option Addr) (l50 c50 : Nat), u49 = .slice a50 l50 c50 ∧ SameB w28 w48 [] ∧ ((∀ (b52 : Nat) (w53 : World),
    Alloc w48 w53 b52 (.cells #[.int .u8 n2] 5) → SameB w48 w53 [] ∧ CallsW Try.prog 22 [.int .u64 (IntKind.u64.wrap c_5)] w53 (Ret (fun u55 w54 => ∃ (a56 : Option Addr) (l56 c56 : Nat), u55 = .slice a56 l56 c56 ∧ SameB
    w53 w54 [] ∧ ∀ (b58 : Nat) (w59 : World), Alloc w54 w59 b58 (.cells #[.slice a6 l6 c6, .slice (some ⟨b52, 0, none⟩) 1 1, .slice a30 l30 c30, .slice a50 l50 c50, .slice a56 l56 c56] 24) → SameB w54 w59 [] ∧ CallsW
    Try.prog 43 [.slice (some ⟨b58, 0, none⟩) 5 5] w59 (Ret (fun u61 w60 => ∃ (a62 : Option Addr) (l62 c62 : Nat), u61 = .slice a62 l62 c62 ∧ SameB w59 w60 [] ∧ R (.returned (.slice a62 l62 c62)) w60) (fun c63 w60 =>
    False))) (fun c57 w54 => False))) ∧ (CallsW Try.prog 22 [.int .u64 (IntKind.u64.wrap c_5)] w48 (Ret (fun u65 w64 => ∃ (a66 : Option Addr) (l66 c66 : Nat), u65 = .slice a66 l66 c66 ∧ SameB w48 w64 [] ∧ ∀ (b68 : Nat)
    (w69 : World), Alloc w64 w69 b68 (.cells #[.int .u8 n2] 5) → SameB w64 w69 [] ∧ ∀ (b70 : Nat) (w71 : World), Alloc w69 w71 b70 (.cells #[.slice a6 l6 c6, .slice (some ⟨b68, 0, none⟩) 1 1, .slice a30 l30 c30, .slice
    a50 l50 c50, .slice a66 l66 c66] 24) → SameB w69 w71 [] ∧ CallsW Try.prog 43 [.slice (some ⟨b70, 0, none⟩) 5 5] w71 (Ret (fun u73 w72 => ∃ (a74 : Option Addr) (l74 c74 : Nat), u73 = .slice a74 l74 c74 ∧ SameB w71 w72
    [] ∧ R (.returned (.slice a74 l74 c74)) w72) (fun c75 w72 => False))) (fun c67 w64 => False))))) (fun c51 w48 => False))))) (fun c31 w28 => False))))) (fun c7 w4 => False))) ∧ (∀ (b76 : Nat) (w77 : World), Alloc w3
    w77 b76 (.cells #[.int .u8 n2] 5) → SameB w3 w77 [] ∧ CallsW Try.prog 22 [.int .u64 c_0] w77 (Ret (fun u79 w78 => ∃ (a80 : Option Addr) (l80 c80 : Nat), u79 = .slice a80 l80 c80 ∧ SameB w77 w78 [] ∧ CallsW Try.prog 44
    [.agg #[.bool c_1, .int .u64 c_2]] w78 (Ret (fun u83 w82 => ∃ (a84 : Option Addr) (l84 c84 : Nat), u83 = .slice a84 l84 c84 ∧ SameB w78 w82 [] ∧ CallsW Try.prog 44 [.agg #[.bool c_3, .int .u64 c_4]] w82 (Ret (fun u87
    w86 => ∃ (a88 : Option Addr) (l88 c88 : Nat), u87 = .slice a88 l88 c88 ∧ SameB w82 w86 [] ∧ CallsW Try.prog 22 [.int .u64 (IntKind.u64.wrap c_5)] w86 (Ret (fun u91 w90 => ∃ (a92 : Option Addr) (l92 c92 : Nat), u91 =
    .slice a92 l92 c92 ∧ SameB w86 w90 [] ∧ ∀ (b94 : Nat) (w95 : World), Alloc w90 w95 b94 (.cells #[.slice a80 l80 c80, .slice (some ⟨b76, 0, none⟩) 1 1, .slice a84 l84 c84, .slice a88 l88 c88, .slice a92 l92 c92] 24) →
    SameB w90 w95 [] ∧ CallsW Try.prog 43 [.slice (some ⟨b94, 0, none⟩) 5 5] w95 (Ret (fun u97 w96 => ∃ (a98 : Option Addr) (l98 c98 : Nat), u97 = .slice a98 l98 c98 ∧ SameB w95 w96 [] ∧ R (.returned (.slice a98 l98 c98))
    w96) (fun c99 w96 => False))) (fun c93 w90 => False))) (fun c89 w86 => False))) (fun c85 w82 => False))) (fun c81 w78 => False))))) ∧ (c_3 = false → ∀ w100, Grew w1 w100 → ((CallsW Try.prog 22 [.int .u64 c_0] w100
    (Ret (fun u102 w101 => ∃ (a103 : Option Addr) (l103 c103 : Nat), u102 = .slice a103 l103 c103 ∧ SameB w100 w101 [] ∧ ((∀ (b105 : Nat) (w106 : World), Alloc w101 w106 b105 (.cells #[.int .u8 (Go.bits .or .u8 0 1)] 5) →
    SameB w101 w106 [] ∧ CallsW Try.prog 44 [.agg #[.bool c_1, .int .u64 c_2]] w106 (Ret (fun u108 w107 => ∃ (a109 : Option Addr) (l109 c109 : Nat), u108 = .slice a109 l109 c109 ∧ SameB w106 w107 [] ∧ CallsW Try.prog 44
    [.agg #[.bool c_3, .int .u64 c_4]] w107 (Ret (fun u112 w111 => ∃ (a113 : Option Addr) (l113 c113 : Nat), u112 = .slice a113 l113 c113 ∧ SameB w107 w111 [] ∧ CallsW Try.prog 22 [.int .u64 (IntKind.u64.wrap c_5)] w111
    (Ret (fun u116 w115 => ∃ (a117 : Option Addr) (l117 c117 : Nat), u116 = .slice a117 l117 c117 ∧ SameB w111 w115 [] ∧ ∀ (b119 : Nat) (w120 : World), Alloc w115 w120 b119 (.cells #[.slice a103 l103 c103, .slice (some
    ⟨b105, 0, none⟩) 1 1, .slice a109 l109 c109, .slice a113 l113 c113, .slice a117 l117 c117] 24) → SameB w115 w120 [] ∧ CallsW Try.prog 43 [.slice (some ⟨b119, 0, none⟩) 5 5] w120 (Ret (fun u122 w121 => ∃ (a123 : Option
    Addr) (l123 c123 : Nat), u122 = .slice a123 l123 c123 ∧ SameB w120 w121 [] ∧ R (.returned (.slice a123 l123 c123)) w121) (fun c124 w121 => False))) (fun c118 w115 => False))) (fun c114 w111 => False))) (fun c110 w107
    => False))) ∧ (CallsW Try.prog 44 [.agg #[.bool c_1, .int .u64 c_2]] w101 (Ret (fun u126 w125 => ∃ (a127 : Option Addr) (l127 c127 : Nat), u126 = .slice a127 l127 c127 ∧ SameB w101 w125 [] ∧ ((∀ (b129 : Nat) (w130 :
    World), Alloc w125 w130 b129 (.cells #[.int .u8 (Go.bits .or .u8 0 1)] 5) → SameB w125 w130 [] ∧ CallsW Try.prog 44 [.agg #[.bool c_3, .int .u64 c_4]] w130 (Ret (fun u132 w131 => ∃ (a133 : Option Addr) (l133 c133 :
    Nat), u132 = .slice a133 l133 c133 ∧ SameB w130 w131 [] ∧ CallsW Try.prog 22 [.int .u64 (IntKind.u64.wrap c_5)] w131 (Ret (fun u136 w135 => ∃ (a137 : Option Addr) (l137 c137 : Nat), u136 = .slice a137 l137 c137 ∧
    SameB w131 w135 [] ∧ ∀ (b139 : Nat) (w140 : World), Alloc w135 w140 b139 (.cells #[.slice a103 l103 c103, .slice (some ⟨b129, 0, none⟩) 1 1, .slice a127 l127 c127, .slice a133 l133 c133, .slice a137 l137 c137] 24) →
    SameB w135 w140 [] ∧ CallsW Try.prog 43 [.slice (some ⟨b139, 0, none⟩) 5 5] w140 (Ret (fun u142 w141 => ∃ (a143 : Option Addr) (l143 c143 : Nat), u142 = .slice a143 l143 c143 ∧ SameB w140 w141 [] ∧ R (.returned
    (.slice a143 l143 c143)) w141) (fun c144 w141 => False))) (fun c138 w135 => False))) (fun c134 w131 => False))) ∧ (CallsW Try.prog 44 [.agg #[.bool c_3, .int .u64 c_4]] w125 (Ret (fun u146 w145 => ∃ (a147 : Option
    Addr) (l147 c147 : Nat), u146 = .slice a147 l147 c147 ∧ SameB w125 w145 [] ∧ ((∀ (b149 : Nat) (w150 : World), Alloc w145 w150 b149 (.cells #[.int .u8 (Go.bits .or .u8 0 1)] 5) → SameB w145 w150 [] ∧ CallsW Try.prog 22
    [.int .u64 (IntKind.u64.wrap c_5)] w150 (Ret (fun u152 w151 => ∃ (a153 : Option Addr) (l153 c153 : Nat), u152 = .slice a153 l153 c153 ∧ SameB w150 w151 [] ∧ ∀ (b155 : Nat) (w156 : World), Alloc w151 w156 b155 (.cells
    #[.slice a103 l103 c103, .slice (some ⟨b149, 0, none⟩) 1 1, .slice a127 l127 c127, .slice a147 l147 c147, .slice a153 l153 c153] 24) → SameB w151 w156 [] ∧ CallsW Try.prog 43 [.slice (some ⟨b155, 0, none⟩) 5 5] w156
    (Ret (fun u158 w157 => ∃ (a159 : Option Addr) (l159 c159 : Nat), u158 = .slice a159 l159 c159 ∧ SameB w156 w157 [] ∧ R (.returned (.slice a159 l159 c159)) w157) (fun c160 w157 => False))) (fun c154 w151 => False))) ∧
    (CallsW Try.prog 22 [.int .u64 (IntKind.u64.wrap c_5)] w145 (Ret (fun u162 w161 => ∃ (a163 : Option Addr) (l163 c163 : Nat), u162 = .slice a163 l163 c163 ∧ SameB w145 w161 [] ∧ ∀ (b165 : Nat) (w166 : World), Alloc
    w161 w166 b165 (.cells #[.int .u8 (Go.bits .or .u8 0 1)] 5) → SameB w161 w166 [] ∧ ∀ (b167 : Nat) (w168 : World), Alloc w166 w168 b167 (.cells #[.slice a103 l103 c103, .slice (some ⟨b165, 0, none⟩) 1 1, .slice a127
    l127 c127, .slice a147 l147 c147, .slice a163 l163 c163] 24) → SameB w166 w168 [] ∧ CallsW Try.prog 43 [.slice (some ⟨b167, 0, none⟩) 5 5] w168 (Ret (fun u170 w169 => ∃ (a171 : Option Addr) (l171 c171 : Nat), u170 =
    .slice a171 l171 c171 ∧ SameB w168 w169 [] ∧ R (.returned (.slice a171 l171 c171)) w169) (fun c172 w169 => False))) (fun c164 w161 => False))))) (fun c148 w145 => False))))) (fun c128 w125 => False))))) (fun c104 w101
    => False))) ∧ (∀ (b173 : Nat) (w174 : World), Alloc w100 w174 b173 (.cells #[.int .u8 (Go.bits .or .u8 0 1)] 5) → SameB w100 w174 [] ∧ CallsW Try.prog 22 [.int .u64 c_0] w174 (Ret (fun u176 w175 => ∃ (a177 : Option
    Addr) (l177 c177 : Nat), u176 = .slice a177 l177 c177 ∧ SameB w174 w175 [] ∧ CallsW Try.prog 44 [.agg #[.bool c_1, .int .u64 c_2]] w175 (Ret (fun u180 w179 => ∃ (a181 : Option Addr) (l181 c181 : Nat), u180 = .slice
    a181 l181 c181 ∧ SameB w175 w179 [] ∧ CallsW Try.prog 44 [.agg #[.bool c_3, .int .u64 c_4]] w179 (Ret (fun u184 w183 => ∃ (a185 : Option Addr) (l185 c185 : Nat), u184 = .slice a185 l185 c185 ∧ SameB w179 w183 [] ∧
    CallsW Try.prog 22 [.int .u64 (IntKind.u64.wrap c_5)] w183 (Ret (fun u188 w187 => ∃ (a189 : Option Addr) (l189 c189 : Nat), u188 = .slice a189 l189 c189 ∧ SameB w183 w187 [] ∧ ∀ (b191 : Nat) (w192 : World), Alloc w187
    w192 b191 (.cells #[.slice a177 l177 c177, .slice (some ⟨b173, 0, none⟩) 1 1, .slice a181 l181 c181, .slice a185 l185 c185, .slice a189 l189 c189] 24) → SameB w187 w192 [] ∧ CallsW Try.prog 43 [.slice (some ⟨b191, 0,
    none⟩) 5 5] w192 (Ret (fun u194 w193 => ∃ (a195 : Option Addr) (l195 c195 : Nat), u194 = .slice a195 l195 c195 ∧ SameB w192 w193 [] ∧ R (.returned (.slice a195 l195 c195)) w193) (fun c196 w193 => False))) (fun c190
    w187 => False))) (fun c186 w183 => False))) (fun c182 w179 => False))) (fun c178 w175 => False))))))) ∧ (c_1 = false → ((c_3 = true → ∀ n197 : Int, n197 = Go.bits .or .u8 0 2 → ∀ w198, Grew w1 w198 → ((CallsW Try.prog
    22 [.int .u64 c_0] w198 (Ret (fun u200 w199 => ∃ (a201 : Option Addr) (l201 c201 : Nat), u200 = .slice a201 l201 c201 ∧ SameB w198 w199 [] ∧ ((∀ (b203 : Nat) (w204 : World), Alloc w199 w204 b203 (.cells #[.int .u8
    n197] 5) → SameB w199 w204 [] ∧ CallsW Try.prog 44 [.agg #[.bool c_1, .int .u64 c_2]] w204 (Ret (fun u206 w205 => ∃ (a207 : Option Addr) (l207 c207 : Nat), u206 = .slice a207 l207 c207 ∧ SameB w204 w205 [] ∧ CallsW
    Try.prog 44 [.agg #[.bool c_3, .int .u64 c_4]] w205 (Ret (fun u210 w209 => ∃ (a211 : Option Addr) (l211 c211 : Nat), u210 = .slice a211 l211 c211 ∧ SameB w205 w209 [] ∧ CallsW Try.prog 22 [.int .u64 (IntKind.u64.wrap
    c_5)] w209 (Ret (fun u214 w213 => ∃ (a215 : Option Addr) (l215 c215 : Nat), u214 = .slice a215 l215 c215 ∧ SameB w209 w213 [] ∧ ∀ (b217 : Nat) (w218 : World), Alloc w213 w218 b217 (.cells #[.slice a201 l201 c201,
    .slice (some ⟨b203, 0, none⟩) 1 1, .slice a207 l207 c207, .slice a211 l211 c211, .slice a215 l215 c215] 24) → SameB w213 w218 [] ∧ CallsW Try.prog 43 [.slice (some ⟨b217, 0, none⟩) 5 5] w218 (Ret (fun u220 w219 => ∃
    (a221 : Option Addr) (l221 c221 : Nat), u220 = .slice a221 l221 c221 ∧ SameB w218 w219 [] ∧ R (.returned (.slice a221 l221 c221)) w219) (fun c222 w219 => False))) (fun c216 w213 => False))) (fun c212 w209 => False)))
    (fun c208 w205 => False))) ∧ (CallsW Try.prog 44 [.agg #[.bool c_1, .int .u64 c_2]] w199 (Ret (fun u224 w223 => ∃ (a225 : Option Addr) (l225 c225 : Nat), u224 = .slice a225 l225 c225 ∧ SameB w199 w223 [] ∧ ((∀ (b227 :
    Nat) (w228 : World), Alloc w223 w228 b227 (.cells #[.int .u8 n197] 5) → SameB w223 w228 [] ∧ CallsW Try.prog 44 [.agg #[.bool c_3, .int .u64 c_4]] w228 (Ret (fun u230 w229 => ∃ (a231 : Option Addr) (l231 c231 : Nat),
    u230 = .slice a231 l231 c231 ∧ SameB w228 w229 [] ∧ CallsW Try.prog 22 [.int .u64 (IntKind.u64.wrap c_5)] w229 (Ret (fun u234 w233 => ∃ (a235 : Option Addr) (l235 c235 : Nat), u234 = .slice a235 l235 c235 ∧ SameB w229
    w233 [] ∧ ∀ (b237 : Nat) (w238 : World), Alloc w233 w238 b237 (.cells #[.slice a201 l201 c201, .slice (some ⟨b227, 0, none⟩) 1 1, .slice a225 l225 c225, .slice a231 l231 c231, .slice a235 l235 c235] 24) → SameB w233
    w238 [] ∧ CallsW Try.prog 43 [.slice (some ⟨b237, 0, none⟩) 5 5] w238 (Ret (fun u240 w239 => ∃ (a241 : Option Addr) (l241 c241 : Nat), u240 = .slice a241 l241 c241 ∧ SameB w238 w239 [] ∧ R (.returned (.slice a241 l241
    c241)) w239) (fun c242 w239 => False))) (fun c236 w233 => False))) (fun c232 w229 => False))) ∧ (CallsW Try.prog 44 [.agg #[.bool c_3, .int .u64 c_4]] w223 (Ret (fun u244 w243 => ∃ (a245 : Option Addr) (l245 c245 :
    Nat), u244 = .slice a245 l245 c245 ∧ SameB w223 w243 [] ∧ ((∀ (b247 : Nat) (w248 : World), Alloc w243 w248 b247 (.cells #[.int .u8 n197] 5) → SameB w243 w248 [] ∧ CallsW Try.prog 22 [.int .u64 (IntKind.u64.wrap c_5)]
    w248 (Ret (fun u250 w249 => ∃ (a251 : Option Addr) (l251 c251 : Nat), u250 = .slice a251 l251 c251 ∧ SameB w248 w249 [] ∧ ∀ (b253 : Nat) (w254 : World), Alloc w249 w254 b253 (.cells #[.slice a201 l201 c201, .slice
    (some ⟨b247, 0, none⟩) 1 1, .slice a225 l225 c225, .slice a245 l245 c245, .slice a251 l251 c251] 24) → SameB w249 w254 [] ∧ CallsW Try.prog 43 [.slice (some ⟨b253, 0, none⟩) 5 5] w254 (Ret (fun u256 w255 => ∃ (a257 :
    Option Addr) (l257 c257 : Nat), u256 = .slice a257 l257 c257 ∧ SameB w254 w255 [] ∧ R (.returned (.slice a257 l257 c257)) w255) (fun c258 w255 => False))) (fun c252 w249 => False))) ∧ (CallsW Try.prog 22 [.int .u64
    (IntKind.u64.wrap c_5)] w243 (Ret (fun u260 w259 => ∃ (a261 : Option Addr) (l261 c261 : Nat), u260 = .slice a261 l261 c261 ∧ SameB w243 w259 [] ∧ ∀ (b263 : Nat) (w264 : World), Alloc w259 w264 b263 (.cells #[.int .u8
    n197] 5) → SameB w259 w264 [] ∧ ∀ (b265 : Nat) (w266 : World), Alloc w264 w266 b265 (.cells #[.slice a201 l201 c201, .slice (some ⟨b263, 0, none⟩) 1 1, .slice a225 l225 c225, .slice a245 l245 c245, .slice a261 l261
    c261] 24) → SameB w264 w266 [] ∧ CallsW Try.prog 43 [.slice (some ⟨b265, 0, none⟩) 5 5] w266 (Ret (fun u268 w267 => ∃ (a269 : Option Addr) (l269 c269 : Nat), u268 = .slice a269 l269 c269 ∧ SameB w266 w267 [] ∧ R
    (.returned (.slice a269 l269 c269)) w267) (fun c270 w267 => False))) (fun c262 w259 => False))))) (fun c246 w243 => False))))) (fun c226 w223 => False))))) (fun c202 w199 => False))) ∧ (∀ (b271 : Nat) (w272 : World),
    Alloc w198 w272 b271 (.cells #[.int .u8 n197] 5) → SameB w198 w272 [] ∧ CallsW Try.prog 22 [.int .u64 c_0] w272 (Ret (fun u274 w273 => ∃ (a275 : Option Addr) (l275 c275 : Nat), u274 = .slice a275 l275 c275 ∧ SameB
    w272 w273 [] ∧ CallsW Try.prog 44 [.agg #[.bool c_1, .int .u64 c_2]] w273 (Ret (fun u278 w277 => ∃ (a279 : Option Addr) (l279 c279 : Nat), u278 = .slice a279 l279 c279 ∧ SameB w273 w277 [] ∧ CallsW Try.prog 44 [.agg
    #[.bool c_3, .int .u64 c_4]] w277 (Ret (fun u282 w281 => ∃ (a283 : Option Addr) (l283 c283 : Nat), u282 = .slice a283 l283 c283 ∧ SameB w277 w281 [] ∧ CallsW Try.prog 22 [.int .u64 (IntKind.u64.wrap c_5)] w281 (Ret
    (fun u286 w285 => ∃ (a287 : Option Addr) (l287 c287 : Nat), u286 = .slice a287 l287 c287 ∧ SameB w281 w285 [] ∧ ∀ (b289 : Nat) (w290 : World), Alloc w285 w290 b289 (.cells #[.slice a275 l275 c275, .slice (some ⟨b271,
    0, none⟩) 1 1, .slice a279 l279 c279, .slice a283 l283 c283, .slice a287 l287 c287] 24) → SameB w285 w290 [] ∧ CallsW Try.prog 43 [.slice (some ⟨b289, 0, none⟩) 5 5] w290 (Ret (fun u292 w291 => ∃ (a293 : Option Addr)
    (l293 c293 : Nat), u292 = .slice a293 l293 c293 ∧ SameB w290 w291 [] ∧ R (.returned (.slice a293 l293 c293)) w291) (fun c294 w291 => False))) (fun c288 w285 => False))) (fun c284 w281 => False))) (fun c280 w277 =>
    False))) (fun c276 w273 => False))))) ∧ (c_3 = false → ∀ w295, Grew w1 w295 → ((CallsW Try.prog 22 [.int .u64 c_0] w295 (Ret (fun u297 w296 => ∃ (a298 : Option Addr) (l298 c298 : Nat), u297 = .slice a298 l298 c298 ∧
    SameB w295 w296 [] ∧ ((∀ (b300 : Nat) (w301 : World), Alloc w296 w301 b300 (.cells #[.int .u8 0] 5) → SameB w296 w301 [] ∧ CallsW Try.prog 44 [.agg #[.bool c_1, .int .u64 c_2]] w301 (Ret (fun u303 w302 => ∃ (a304 :
    Option Addr) (l304 c304 : Nat), u303 = .slice a304 l304 c304 ∧ SameB w301 w302 [] ∧ CallsW Try.prog 44 [.agg #[.bool c_3, .int .u64 c_4]] w302 (Ret (fun u307 w306 => ∃ (a308 : Option Addr) (l308 c308 : Nat), u307 =
    .slice a308 l308 c308 ∧ SameB w302 w306 [] ∧ CallsW Try.prog 22 [.int .u64 (IntKind.u64.wrap c_5)] w306 (Ret (fun u311 w310 => ∃ (a312 : Option Addr) (l312 c312 : Nat), u311 = .slice a312 l312 c312 ∧ SameB w306 w310
    [] ∧ ∀ (b314 : Nat) (w315 : World), Alloc w310 w315 b314 (.cells #[.slice a298 l298 c298, .slice (some ⟨b300, 0, none⟩) 1 1, .slice a304 l304 c304, .slice a308 l308 c308, .slice a312 l312 c312] 24) → SameB w310 w315
    [] ∧ CallsW Try.prog 43 [.slice (some ⟨b314, 0, none⟩) 5 5] w315 (Ret (fun u317 w316 => ∃ (a318 : Option Addr) (l318 c318 : Nat), u317 = .slice a318 l318 c318 ∧ SameB w315 w316 [] ∧ R (.returned (.slice a318 l318
    c318)) w316) (fun c319 w316 => False))) (fun c313 w310 => False))) (fun c309 w306 => False))) (fun c305 w302 => False))) ∧ (CallsW Try.prog 44 [.agg #[.bool c_1, .int .u64 c_2]] w296 (Ret (fun u321 w320 => ∃ (a322 :
    Option Addr) (l322 c322 : Nat), u321 = .slice a322 l322 c322 ∧ SameB w296 w320 [] ∧ ((∀ (b324 : Nat) (w325 : World), Alloc w320 w325 b324 (.cells #[.int .u8 0] 5) → SameB w320 w325 [] ∧ CallsW Try.prog 44 [.agg
    #[.bool c_3, .int .u64 c_4]] w325 (Ret (fun u327 w326 => ∃ (a328 : Option Addr) (l328 c328 : Nat), u327 = .slice a328 l328 c328 ∧ SameB w325 w326 [] ∧ CallsW Try.prog 22 [.int .u64 (IntKind.u64.wrap c_5)] w326 (Ret
    (fun u331 w330 => ∃ (a332 : Option Addr) (l332 c332 : Nat), u331 = .slice a332 l332 c332 ∧ SameB w326 w330 [] ∧ ∀ (b334 : Nat) (w335 : World), Alloc w330 w335 b334 (.cells #[.slice a298 l298 c298, .slice (some ⟨b324,
    0, none⟩) 1 1, .slice a322 l322 c322, .slice a328 l328 c328, .slice a332 l332 c332] 24) → SameB w330 w335 [] ∧ CallsW Try.prog 43 [.slice (some ⟨b334, 0, none⟩) 5 5] w335 (Ret (fun u337 w336 => ∃ (a338 : Option Addr)
    (l338 c338 : Nat), u337 = .slice a338 l338 c338 ∧ SameB w335 w336 [] ∧ R (.returned (.slice a338 l338 c338)) w336) (fun c339 w336 => False))) (fun c333 w330 => False))) (fun c329 w326 => False))) ∧ (CallsW Try.prog 44
    [.agg #[.bool c_3, .int .u64 c_4]] w320 (Ret (fun u341 w340 => ∃ (a342 : Option Addr) (l342 c342 : Nat), u341 = .slice a342 l342 c342 ∧ SameB w320 w340 [] ∧ ((∀ (b344 : Nat) (w345 : World), Alloc w340 w345 b344
    (.cells #[.int .u8 0] 5) → SameB w340 w345 [] ∧ CallsW Try.prog 22 [.int .u64 (IntKind.u64.wrap c_5)] w345 (Ret (fun u347 w346 => ∃ (a348 : Option Addr) (l348 c348 : Nat), u347 = .slice a348 l348 c348 ∧ SameB w345
    w346 [] ∧ ∀ (b350 : Nat) (w351 : World), Alloc w346 w351 b350 (.cells #[.slice a298 l298 c298, .slice (some ⟨b344, 0, none⟩) 1 1, .slice a322 l322 c322, .slice a342 l342 c342, .slice a348 l348 c348] 24) → SameB w346
    w351 [] ∧ CallsW Try.prog 43 [.slice (some ⟨b350, 0, none⟩) 5 5] w351 (Ret (fun u353 w352 => ∃ (a354 : Option Addr) (l354 c354 : Nat), u353 = .slice a354 l354 c354 ∧ SameB w351 w352 [] ∧ R (.returned (.slice a354 l354
    c354)) w352) (fun c355 w352 => False))) (fun c349 w346 => False))) ∧ (CallsW Try.prog 22 [.int .u64 (IntKind.u64.wrap c_5)] w340 (Ret (fun u357 w356 => ∃ (a358 : Option Addr) (l358 c358 : Nat), u357 = .slice a358 l358
    c358 ∧ SameB w340 w356 [] ∧ ∀ (b360 : Nat) (w361 : World), Alloc w356 w361 b360 (.cells #[.int .u8 0] 5) → SameB w356 w361 [] ∧ ∀ (b362 : Nat) (w363 : World), Alloc w361 w363 b362 (.cells #[.slice a298 l298 c298,
    .slice (some ⟨b360, 0, none⟩) 1 1, .slice a322 l322 c322, .slice a342 l342 c342, .slice a358 l358 c358] 24) → SameB w361 w363 [] ∧ CallsW Try.prog 43 [.slice (some ⟨b362, 0, none⟩) 5 5] w363 (Ret (fun u365 w364 => ∃
    (a366 : Option Addr) (l366 c366 : Nat), u365 = .slice a366 l366 c366 ∧ SameB w363 w364 [] ∧ R (.returned (.slice a366 l366 c366)) w364) (fun c367 w364 => False))) (fun c359 w356 => False))))) (fun c343 w340 =>
    False))))) (fun c323 w320 => False))))) (fun c299 w296 => False))) ∧ (∀ (b368 : Nat) (w369 : World), Alloc w295 w369 b368 (.cells #[.int .u8 0] 5) → SameB w295 w369 [] ∧ CallsW Try.prog 22 [.int .u64 c_0] w369 (Ret
    (fun u371 w370 => ∃ (a372 : Option Addr) (l372 c372 : Nat), u371 = .slice a372 l372 c372 ∧ SameB w369 w370 [] ∧ CallsW Try.prog 44 [.agg #[.bool c_1, .int .u64 c_2]] w370 (Ret (fun u375 w374 => ∃ (a376 : Option Addr)
    (l376 c376 : Nat), u375 = .slice a376 l376 c376 ∧ SameB w370 w374 [] ∧ CallsW Try.prog 44 [.agg #[.bool c_3, .int .u64 c_4]] w374 (Ret (fun u379 w378 => ∃ (a380 : Option Addr) (l380 c380 : Nat), u379 = .slice a380
    l380 c380 ∧ SameB w374 w378 [] ∧ CallsW Try.prog 22 [.int .u64 (IntKind.u64.wrap c_5)] w378 (Ret (fun u383 w382 => ∃ (a384 : Option Addr) (l384 c384 : Nat), u383 = .slice a384 l384 c384 ∧ SameB w378 w382 [] ∧ ∀ (b386
    : Nat) (w387 : World), Alloc w382 w387 b386 (.cells #[.slice a372 l372 c372, .slice (some ⟨b368, 0, none⟩) 1 1, .slice a376 l376 c376, .slice a380 l380 c380, .slice a384 l384 c384] 24) → SameB w382 w387 [] ∧ CallsW
    Try.prog 43 [.slice (some ⟨b386, 0, none⟩) 5 5] w387 (Ret (fun u389 w388 => ∃ (a390 : Option Addr) (l390 c390 : Nat), u389 = .slice a390 l390 c390 ∧ SameB w387 w388 [] ∧ R (.returned (.slice a390 l390 c390)) w388)
    (fun c391 w388 => False))) (fun c385 w382 => False))) (fun c381 w378 => False))) (fun c377 w374 => False))) (fun c373 w370 => False))))))))
theorem sx25.ok {c_0 : Int} {c_1 : Bool} {c_2 : Int} {c_3 : Bool} {c_4 : Int} {c_5 : Int} {R : Ending → World → Prop} {w : World} (h : sx25 c_0 c_1 c_2 c_3 c_4 c_5 R w) : CallsW Try.prog 25 [.agg #[.int .u64 c_0, .bool c_1, .int .u64 c_2, .bool c_3, .int .u64 c_4, .int .i64 c_5]] w R :=
  callsW_of mix Try.func25 (by kernel_rfl) (by kernel_rfl) (Eq.mpr (by kernel_rfl : denFn Try.prog { locals := [1], named := [13], draws := [(6, { order := (.cons 0 (.cons 1 (.cons 3 (.cons 5 (.cons 6 (.cons 8 (.cons 9 (.cons 11 (.cons 12 (.cons 13 (.alt (.cons 2 (.alt (.cons 4 (.cons 7 (.cons 10 (.cons 14 (.cons 15 (.cons 16 (.cons 17 .nil))))))) (.cons 7 (.alt (.cons 4 (.cons 10 (.cons 14 (.cons 15 (.cons 16 (.cons 17 .nil)))))) (.cons 10 (.alt (.cons 4 (.cons 14 (.cons 15 (.cons 16 (.cons 17 .nil))))) (.cons 14 (.cons 4 (.cons 15 (.cons 16 (.cons 17 .nil))))))))))) (.cons 4 (.cons 2 (.cons 7 (.cons 10 (.cons 14 (.cons 15 (.cons 16 (.cons 17 .nil))))))))))))))))))), bars := [] })] } Try.f25 [.agg #[.int .u64 c_0, .bool c_1, .int .u64 c_2, .bool c_3, .int .u64 c_4, .int .i64 c_5]] R w = sx25 c_0 c_1 c_2 c_3 c_4 c_5 R w) h)

/- reprise/bucket.inOrder -/
def sx23 (cells : Option Addr) (cells_n cells_c : Nat) (R : Ending → World → Prop) (w : World) : Prop :=
  ∃ (I1 : Int → World → Prop) (m1 : Int → World → Nat), I1 1 w ∧ ∀ (n2 : Int) (w3 : World), I1 n2 w3 → (((decide (n2 < ((cells_n : Nat) : Int))) = true → withSome cells (fun d4 => (0 ≤ n2 ∧ n2 < (cells_n : Nat)) ∧ ∃ (n5 :
    Int), w3.cell? (Addr.add d4 (n2.toNat * 6)) = some (.int .u64 n5) ∧ withSome cells (fun d6 => (0 ≤ (IntKind.i64.wrap (n2 - 1)) ∧ (IntKind.i64.wrap (n2 - 1)) < (cells_n : Nat)) ∧ ∃ (n7 : Int), w3.cell? (Addr.add d6
    ((IntKind.i64.wrap (n2 - 1)).toNat * 6)) = some (.int .u64 n7) ∧ ∀ w8, Grew w3 w8 → (((decide (n5 ≤ n7)) = true → R (.returned (.bool false)) w8) ∧ ((decide (n5 ≤ n7)) = false → (I1 (IntKind.i64.wrap (n2 + 1)) w8 ∧ m1
    (IntKind.i64.wrap (n2 + 1)) w8 < m1 n2 w3)))))) ∧ ((decide (n2 < ((cells_n : Nat) : Int))) = false → R (.returned (.bool true)) w3))
theorem sx23.ok {cells : Option Addr} {cells_n cells_c : Nat} {R : Ending → World → Prop} {w : World} (h : sx23 cells cells_n cells_c R w) : CallsW Try.prog 23 [.slice cells cells_n cells_c] w R :=
  callsW_of mix Try.func23 (by kernel_rfl) (by kernel_rfl) (Eq.mpr (by kernel_rfl : denFn Try.prog { loops := [(2, { slots := [(3, .int .i64)], cells := [] })] } Try.f23 [.slice cells cells_n cells_c] R w = sx23 cells cells_n cells_c R w) h)

/- reprise/bucket.isValue -/
def sx24 (v_0 : Bool) (v_1 : Int) (R : Ending → World → Prop) (w : World) : Prop :=
  ∀ w1, Grew w w1 → ((v_0 = true → R (.returned (.bool true)) w1) ∧ (v_0 = false → R (.returned (.bool (v_1 == 0))) w1))
theorem sx24.ok {v_0 : Bool} {v_1 : Int} {R : Ending → World → Prop} {w : World} (h : sx24 v_0 v_1 R w) : CallsW Try.prog 24 [.agg #[.bool v_0, .int .u64 v_1]] w R :=
  callsW_of mix Try.func24 (by kernel_rfl) (by kernel_rfl) (Eq.mpr (by kernel_rfl : denFn Try.prog { locals := [1] } Try.f24 [.agg #[.bool v_0, .int .u64 v_1]] R w = sx24 v_0 v_1 R w) h)


theorem word_ok {h : Bool} {x : Int} {w : World} (h0 : 0 ≤ x) (h1 : x < u64m) : CallsW Try.prog 44 [.agg #[.bool h, .int .u64 x]] w (Rets (Fresh w 5 (Enc.int .u8) (valB h x))) := by
  refine sx44.ok ?_
  unfold sx44
  intro w1 hg
  refine ⟨fun hh => ?_, fun hh => ?_⟩
  · simp at hh; subst hh
    exact ⟨_, rfl, none, 0, 0, rfl, Own.nil _ _ _ _, hg⟩
  · simp at hh; subst hh
    refine (Word_ok h0 h1).use fun v w2 ⟨a, n, c, hv, ho, hg2⟩ => ?_
    subst hv
    exact ⟨a, n, c, rfl, _, rfl, a, n, c, rfl, ho.base hg.size, hg.trans hg2⟩

theorem isValue_ok {h : Bool} {x : Int} {w : World} : CallsW Try.prog 24 [.agg #[.bool h, .int .u64 x]] w (Rets fun v w' => v = .bool (h || x == 0) ∧ Grew w w') := by
  refine sx24.ok ?_
  unfold sx24
  intro w1 hg
  refine ⟨fun hh => ?_, fun hh => ?_⟩ <;> subst hh <;> exact ⟨_, rfl, by simp, hg⟩

theorem Join5_ok {w w1 : World} {b n1 n2 n3 n4 n5 c1 c2 c3 c4 c5 : Nat} {a1 a2 a3 a4 a5 : Option Addr} {l1 l2 l3 l4 l5 : List Int}
    (ha : Alloc w w1 b (.cells #[.slice a1 n1 c1, .slice a2 n2 c2, .slice a3 n3 c3, .slice a4 n4 c4, .slice a5 n5 c5] 24))
    (h1 : Reads w (Enc.int .u8) (a1, n1, c1) l1) (h2 : Reads w (Enc.int .u8) (a2, n2, c2) l2) (h3 : Reads w (Enc.int .u8) (a3, n3, c3) l3) (h4 : Reads w (Enc.int .u8) (a4, n4, c4) l4) (h5 : Reads w (Enc.int .u8) (a5, n5, c5) l5)
    (hl : (l1 ++ (l2 ++ (l3 ++ (l4 ++ l5)))).length ≤ 1099511627776) :
    CallsW Try.prog 43 [.slice (some ⟨b, 0, none⟩) 5 5] w1 (Rets (Fresh w1 5 (Enc.int .u8) (l1 ++ (l2 ++ (l3 ++ (l4 ++ l5)))))) := by
  have hs := (Own.alloc (E := Enc.slice) (l := [(a1, n1, c1), (a2, n2, c2), (a3, n3, c3), (a4, n4, c4), (a5, n5, c5)]) ha (Nat.le_refl _) rfl (by simp [maxLen])).sl
  have hf : [l1, l2, l3, l4, l5].flatten = l1 ++ (l2 ++ (l3 ++ (l4 ++ l5))) := by simp
  have := Join_ok (ls := [l1, l2, l3, l4, l5]) (n := 5) (c := 5) hs rfl rfl ?_ (by rw [hf]; exact hl) (by decide)
  · rw [hf] at this; exact this
  · intro k p l hp hq
    rcases k with _ | _ | _ | _ | _ | k <;> simp at hp hq
    all_goals (subst hp; subst hq)
    · exact h1.grew ha.grew
    · exact h2.grew ha.grew
    · exact h3.grew ha.grew
    · exact h4.grew ha.grew
    · exact h5.grew ha.grew

set_option maxHeartbeats 2000000 in
theorem cellBytes_ok {x : CellV} {w : World} (hx : x.Fits) : CallsW Try.prog 25 [.agg x.vals.toArray] w (Rets (Fresh w 5 (Enc.int .u8) (cellB x))) := by
  refine sx25.ok ?_
  unfold sx25
  obtain ⟨k, ph, pb, ch, cb, ba⟩ := x
  dsimp only
  have hlen := cellB_len hx
  have hk := hx.k0; have hk' := hx.k1; have hp := hx.p0; have hp' := hx.p1; have hc := hx.c0; have hc' := hx.c1
  simp only at hk hk' hp hp' hc hc'
  have hwb : IntKind.u64.wrap ba = ba % u64m := by rw [IntKind.wrap_u64]; rfl
  have hb0 : 0 ≤ ba % u64m := Int.emod_nonneg _ (by decide)
  have hb1 : ba % u64m < u64m := Int.emod_lt_of_pos _ (by decide)
  rw [hwb]
  intro w1 hg1
  have e1 : Go.bits .or .u8 0 1 = 1 := by decide
  have e2 : Go.bits .or .u8 0 2 = 2 := by decide
  have e3 : Go.bits .or .u8 1 2 = 3 := by decide
  rw [e1, e2, e3]
  refine ⟨fun h1 => ⟨fun h2 => ?_, fun h2 => ?_⟩, fun h1 => ⟨fun h2 => ?_, fun h2 => ?_⟩⟩
  all_goals
    subst h1; subst h2
    repeat' first
      | exact trivial
      | with_reducible rintro _ rfl
      | with_reducible intro _
      | with_reducible refine And.intro ?_ ?_
      | (refine (Put_ok (by assumption) (by assumption)).use' ?_; rintro v w' ⟨a, n, c, hv, ho, hg⟩; subst hv; refine ⟨a, n, c, rfl, ?_⟩)
      | (refine (word_ok (by assumption) (by assumption)).use' ?_; rintro v w' ⟨a, n, c, hv, ho, hg⟩; subst hv; refine ⟨a, n, c, rfl, ?_⟩)
      | (refine (Join5_ok (by assumption) (by (first | exact Reads.grew (Own.reads (by assumption)) (by (repeat (first | exact Grew.refl _ | assumption | exact Alloc.grew (by assumption) | refine Grew.trans (by assumption) ?_ | refine Grew.trans (Alloc.grew (by assumption)) ?_))) | exact Reads.grew (Own.reads (Own.alloc (E := Enc.int .u8) (l := [_]) (by assumption) (Nat.le_refl _) rfl (by simp [maxLen]))) (by (repeat (first | exact Grew.refl _ | assumption | exact Alloc.grew (by assumption) | refine Grew.trans (by assumption) ?_ | refine Grew.trans (Alloc.grew (by assumption)) ?_))))) (by (first | exact Reads.grew (Own.reads (by assumption)) (by (repeat (first | exact Grew.refl _ | assumption | exact Alloc.grew (by assumption) | refine Grew.trans (by assumption) ?_ | refine Grew.trans (Alloc.grew (by assumption)) ?_))) | exact Reads.grew (Own.reads (Own.alloc (E := Enc.int .u8) (l := [_]) (by assumption) (Nat.le_refl _) rfl (by simp [maxLen]))) (by (repeat (first | exact Grew.refl _ | assumption | exact Alloc.grew (by assumption) | refine Grew.trans (by assumption) ?_ | refine Grew.trans (Alloc.grew (by assumption)) ?_))))) (by (first | exact Reads.grew (Own.reads (by assumption)) (by (repeat (first | exact Grew.refl _ | assumption | exact Alloc.grew (by assumption) | refine Grew.trans (by assumption) ?_ | refine Grew.trans (Alloc.grew (by assumption)) ?_))) | exact Reads.grew (Own.reads (Own.alloc (E := Enc.int .u8) (l := [_]) (by assumption) (Nat.le_refl _) rfl (by simp [maxLen]))) (by (repeat (first | exact Grew.refl _ | assumption | exact Alloc.grew (by assumption) | refine Grew.trans (by assumption) ?_ | refine Grew.trans (Alloc.grew (by assumption)) ?_))))) (by (first | exact Reads.grew (Own.reads (by assumption)) (by (repeat (first | exact Grew.refl _ | assumption | exact Alloc.grew (by assumption) | refine Grew.trans (by assumption) ?_ | refine Grew.trans (Alloc.grew (by assumption)) ?_))) | exact Reads.grew (Own.reads (Own.alloc (E := Enc.int .u8) (l := [_]) (by assumption) (Nat.le_refl _) rfl (by simp [maxLen]))) (by (repeat (first | exact Grew.refl _ | assumption | exact Alloc.grew (by assumption) | refine Grew.trans (by assumption) ?_ | refine Grew.trans (Alloc.grew (by assumption)) ?_))))) (by (first | exact Reads.grew (Own.reads (by assumption)) (by (repeat (first | exact Grew.refl _ | assumption | exact Alloc.grew (by assumption) | refine Grew.trans (by assumption) ?_ | refine Grew.trans (Alloc.grew (by assumption)) ?_))) | exact Reads.grew (Own.reads (Own.alloc (E := Enc.int .u8) (l := [_]) (by assumption) (Nat.le_refl _) rfl (by simp [maxLen]))) (by (repeat (first | exact Grew.refl _ | assumption | exact Alloc.grew (by assumption) | refine Grew.trans (by assumption) ?_ | refine Grew.trans (Alloc.grew (by assumption)) ?_))))) (Nat.le_trans hlen (by decide))).use' ?_
         rintro v w' ⟨a, n, c, hv, ho, hg⟩; subst hv
         exact ⟨a, n, c, rfl, trivial, _, rfl, a, n, c, rfl, ho.base (Grew.size (by (repeat (first | exact Grew.refl _ | assumption | exact Alloc.grew (by assumption) | refine Grew.trans (by assumption) ?_ | refine Grew.trans (Alloc.grew (by assumption)) ?_)))), by (repeat (first | exact Grew.refl _ | assumption | exact Alloc.grew (by assumption) | refine Grew.trans (by assumption) ?_ | refine Grew.trans (Alloc.grew (by assumption)) ?_))⟩)

theorem inOrder_ok {a : Option Addr} {n c : Nat} {l : List CellV} {w : World} (hr : Reads w Enc.cell (a, n, c) l) (hn : l.length ≤ 9223372036854775807) : CallsW Try.prog 23 [.slice a n c] w (Rets fun v w' => v = .bool (risingB l) ∧ Grew w w') := by
  refine sx23.ok ?_
  unfold sx23
  obtain ⟨hs, hn', -, -⟩ := hr
  replace hn' : n = l.length := hn'
  replace hs : Sl w a Enc.cell l := hs
  subst hn'
  refine ⟨fun i w' => ∃ k : Nat, i = k ∧ 1 ≤ k ∧ (∀ (j : Nat) (x y : CellV), j + 1 < k → l[j]? = some x → l[j + 1]? = some y → x.key < y.key) ∧ Grew w w', fun i _ => l.length - i.toNat, ⟨1, rfl, by decide, fun j x y h => by omega, Grew.refl _⟩, ?_⟩
  rintro i w' ⟨k, rfl, hk, hlt, hg⟩
  refine ⟨fun h => ?_, fun h => ?_⟩
  · simp only [decide_eq_true_eq] at h
    have hw1 : IntKind.i64.wrap ((k : Int) - 1) = ((k - 1 : Nat) : Int) := by rw [IntKind.wrap_i64]; omega
    have hw2 : IntKind.i64.wrap ((k : Int) + 1) = ((k + 1 : Nat) : Int) := by rw [IntKind.wrap_i64]; omega
    have hs' := hs.grew hg
    obtain ⟨d, y, rfl, hy, hcy⟩ := hs'.at_ (n := k) (by omega) (by omega)
    obtain ⟨d', x, hd', hx, hcx⟩ := hs'.at_ (n := ((k - 1 : Nat) : Int)) (by omega) (by omega)
    cases hd'
    simp only [Int.toNat_natCast] at hx hy hcx hcy
    rw [hw1, hw2]
    refine ⟨by omega, y.key, by simpa [Addr.add_zero', Enc.cell] using hcy.1, ⟨by omega, by omega⟩, x.key, by simpa [Addr.add_zero', Enc.cell] using hcx.1, fun w8 hg8 => ⟨fun hle => ?_, fun hle => ?_⟩⟩
    · simp only [decide_eq_true_eq] at hle
      refine ⟨_, rfl, ?_, hg.trans hg8⟩
      have : risingB l = false := by
        apply Bool.eq_false_iff.2
        intro hr
        have := (risingB_iff l).1 hr (k - 1) x y hx (by rw [show k - 1 + 1 = k from by omega]; exact hy)
        omega
      rw [this]
    · simp only [decide_eq_false_iff_not] at hle
      refine ⟨⟨k + 1, rfl, by omega, fun j u v hj hu hv => ?_, hg.trans hg8⟩, by show l.length - (((k + 1 : Nat) : Int)).toNat < l.length - ((k : Int)).toNat; omega⟩
      by_cases hjk : j + 1 < k
      · exact hlt j u v hjk hu hv
      · have : j = k - 1 := by omega
        subst this
        rw [show k - 1 + 1 = k from by omega] at hv
        rw [hx] at hu; rw [hy] at hv
        cases hu; cases hv; omega
  · simp only [decide_eq_false_iff_not] at h
    refine ⟨_, rfl, ?_, hg⟩
    have : risingB l = true := (risingB_iff l).2 fun i x y hx hy => by
      have : i + 1 < l.length := by
        rcases Nat.lt_or_ge (i + 1) l.length with h' | h'
        · exact h'
        · rw [List.getElem?_eq_none h'] at hy; cases hy
      exact hlt i x y (by omega) hx hy
    rw [this]
end Go.Proofs.Ytnbknhcpjggabaa
