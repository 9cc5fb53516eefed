/- What the reference's Put, Word, raw and Encode hand back. Conditions: none. -/
import Derived.Test.YtnbknhcpjggabaaProg
import Derived.Test.YtnbknhcpjggabaaBucket6
namespace Go.Proofs.Ytnbknhcpjggabaa
open Go.Sx
set_option maxRecDepth 100000
set_option linter.unusedVariables false
set_option linter.unusedSimpArgs false
/- reprise/repriseref02.Put -/
def sx26 (x : Int) (R : Ending → World → Prop) (w : World) : Prop :=
  ∀ (b1 : Nat) (w2 : World), Alloc w w2 b1 (.cells #[] 5) → ∃ (I3 : Int → Option Addr → Nat → Nat → World → Prop) (m3 : Int → Option Addr → Nat → Nat → World → Nat), I3 x (some ⟨b1, 0, none⟩) 0 0 w2 ∧ ∀ (n4 : Int) (a5 :
    Option Addr) (l5 c5 : Nat) (w6 : World), I3 n4 a5 l5 c5 w6 → (((decide (n4 ≥ 128)) = true → (((128 : Int) = 0 → R (.panicked (divPanic Try.prog)) w6) ∧ ((128 : Int) ≠ 0 → ∀ n7 : Int, n7 = IntKind.u8.wrap (Int.tmod n4
    128) → ∀ (b8 : Nat) (w9 : World), Alloc w6 w9 b8 (.cells #[.int .u8 (IntKind.u8.wrap (n7 + 128))] 5) → SemW Try.prog (Builtin.append_ #[24, 24] 24 #[.slice a5 l5 c5, .slice (some ⟨b8, 0, none⟩) 1 1]) (fun u11 w10 => ∃
    (a12 : Option Addr) (l12 c12 : Nat), u11 = .slice a12 l12 c12 ∧ (((128 : Int) = 0 → R (.panicked (divPanic Try.prog)) w10) ∧ ((128 : Int) ≠ 0 → ∀ n13 : Int, n13 = IntKind.u64.wrap (Int.tdiv n4 128) → (I3 n13 a12 l12
    c12 w10 ∧ m3 n13 a12 l12 c12 w10 < m3 n4 a5 l5 c5 w6)))) w9))) ∧ ((decide (n4 ≥ 128)) = false → ∀ (b14 : Nat) (w15 : World), Alloc w6 w15 b14 (.cells #[.int .u8 (IntKind.u8.wrap n4)] 5) → SemW Try.prog
    (Builtin.append_ #[24, 24] 24 #[.slice a5 l5 c5, .slice (some ⟨b14, 0, none⟩) 1 1]) (fun u17 w16 => ∃ (a18 : Option Addr) (l18 c18 : Nat), u17 = .slice a18 l18 c18 ∧ R (.returned (.slice a18 l18 c18)) w16) w15))
theorem sx26.ok {x : Int} {R : Ending → World → Prop} {w : World} (h : sx26 x R w) : CallsW Try.prog 26 [.int .u64 x] w R :=
  callsW_of mix Try.func26 (by kernel_rfl) (by kernel_rfl) (Eq.mpr (by kernel_rfl : denFn Try.prog { sem := [13, 20], named := [10, 15], loops := [(2, { slots := [(0, .int .u64), (3, .slice)], cells := [] })] } Try.f26 [.int .u64 x] R w = sx26 x R w) h)

/- reprise/repriseref02.Word -/
def sx28 (x : Int) (R : Ending → World → Prop) (w : World) : Prop :=
  ∀ (b1 : Nat) (w2 : World), Alloc w w2 b1 (.cells #[] 5) → ∃ (I3 : Int → Option Addr → Nat → Nat → Int → World → Prop) (m3 : Int → Option Addr → Nat → Nat → Int → World → Nat), I3 x (some ⟨b1, 0, none⟩) 0 0 0 w2 ∧ ∀ (n4 :
    Int) (a5 : Option Addr) (l5 c5 : Nat) (n6 : Int) (w7 : World), I3 n4 a5 l5 c5 n6 w7 → (((decide (n6 < 8)) = true → (((256 : Int) = 0 → R (.panicked (divPanic Try.prog)) w7) ∧ ((256 : Int) ≠ 0 → ∀ n8 : Int, n8 =
    IntKind.u8.wrap (Int.tmod n4 256) → ∀ (b9 : Nat) (w10 : World), Alloc w7 w10 b9 (.cells #[.int .u8 n8] 5) → SemW Try.prog (Builtin.append_ #[24, 24] 24 #[.slice a5 l5 c5, .slice (some ⟨b9, 0, none⟩) 1 1]) (fun u12 w11
    => ∃ (a13 : Option Addr) (l13 c13 : Nat), u12 = .slice a13 l13 c13 ∧ (((256 : Int) = 0 → R (.panicked (divPanic Try.prog)) w11) ∧ ((256 : Int) ≠ 0 → ∀ n14 : Int, n14 = IntKind.u64.wrap (Int.tdiv n4 256) → (I3 n14 a13
    l13 c13 (IntKind.i64.wrap (n6 + 1)) w11 ∧ m3 n14 a13 l13 c13 (IntKind.i64.wrap (n6 + 1)) w11 < m3 n4 a5 l5 c5 n6 w7)))) w10))) ∧ ((decide (n6 < 8)) = false → R (.returned (.slice a5 l5 c5)) w7))
theorem sx28.ok {x : Int} {R : Ending → World → Prop} {w : World} (h : sx28 x R w) : CallsW Try.prog 28 [.int .u64 x] w R :=
  callsW_of mix Try.func28 (by kernel_rfl) (by kernel_rfl) (Eq.mpr (by kernel_rfl : denFn Try.prog { sem := [15], named := [13, 17], loops := [(3, { slots := [(0, .int .u64), (3, .slice), (4, .int .i64)], cells := [] })] } Try.f28 [.int .u64 x] R w = sx28 x R w) h)

/- reprise/repriseref11.raw -/
def sx27 (v_0 : Bool) (v_1 : Int) (R : Ending → World → Prop) (w : World) : Prop :=
  ∀ w1, Grew w w1 → (((!v_0) = true → R (.returned (.bool (v_1 != 0))) w1) ∧ ((!v_0) = false → R (.returned (.bool false)) w1))
theorem sx27.ok {v_0 : Bool} {v_1 : Int} {R : Ending → World → Prop} {w : World} (h : sx27 v_0 v_1 R w) : CallsW Try.prog 27 [.agg #[.bool v_0, .int .u64 v_1]] w R :=
  callsW_of mix Try.func27 (by kernel_rfl) (by kernel_rfl) (Eq.mpr (by kernel_rfl : denFn Try.prog { locals := [1] } Try.f27 [.agg #[.bool v_0, .int .u64 v_1]] R w = sx27 v_0 v_1 R w) h)

/- reprise/repriseref11.Encode -/
def sx11 (d : Option Addr) (d_n d_c : Nat) (R : Ending → World → Prop) (w : World) : Prop :=
  (((decide (((d_n : Nat) : Int) > 16)) = true → R (.returned (.tuple #[.slice none 0 0, .int .i64 6])) w) ∧ ((decide (((d_n : Nat) : Int) > 16)) = false → (((((d_n : Nat) : Int) == 0) = true → R (.returned (.tuple #[.slice
    none 0 0, .int .i64 0])) w) ∧ ((((d_n : Nat) : Int) == 0) = false → ∀ n1 : Int, n1 = IntKind.u64.wrap ((d_n : Nat) : Int) → CallsW Try.prog 26 [.int .u64 n1] w (RetR R fun u3 w2 => ∃ (a4 : Option Addr) (l4 c4 : Nat),
    u3 = .slice a4 l4 c4 ∧ ∃ (I6 : Option Addr → Nat → Nat → Int → World → Prop) (m6 : Option Addr → Nat → Nat → Int → World → Nat), I6 a4 l4 c4 0 w2 ∧ ∀ (a7 : Option Addr) (l7 c7 : Nat) (n8 : Int) (w9 : World), I6 a7 l7
    c7 n8 w9 → (((decide (n8 < ((d_n : Nat) : Int))) = true → withSome d (fun d10 => (0 ≤ n8 ∧ n8 < (d_n : Nat)) ∧ ∃ (n11 : Int) (b12 : Bool) (n13 : Int) (b14 : Bool) (n15 : Int) (n16 : Int), CellsAt w9 (Addr.add d10
    (n8.toNat * 6)) 0 [.int .u64 n11, .bool b12, .int .u64 n13, .bool b14, .int .u64 n15, .int .i64 n16] ∧ ∀ w17, Grew w9 w17 → (((decide (n8 > 0)) = true → withSome d (fun d18 => (0 ≤ (IntKind.i64.wrap (n8 - 1)) ∧
    (IntKind.i64.wrap (n8 - 1)) < (d_n : Nat)) ∧ ∃ (n19 : Int), w17.cell? (Addr.add d18 ((IntKind.i64.wrap (n8 - 1)).toNat * 6)) = some (.int .u64 n19) ∧ ∀ w20, Grew w17 w20 → (((decide (n11 ≤ n19)) = true → R (.returned
    (.tuple #[.slice none 0 0, .int .i64 7])) w20) ∧ ((decide (n11 ≤ n19)) = false → (((decide (n16 < 0)) = true → R (.returned (.tuple #[.slice none 0 0, .int .i64 1])) w20) ∧ ((decide (n16 < 0)) = false → (((decide (n16
    > 1099511627776)) = true → R (.returned (.tuple #[.slice none 0 0, .int .i64 1])) w20) ∧ ((decide (n16 > 1099511627776)) = false → CallsW Try.prog 27 [.agg #[.bool b12, .int .u64 n13]] w20 (RetR R fun u22 w21 => ∃
    (b23 : Bool), u22 = .bool b23 ∧ ((b23 = true → R (.returned (.tuple #[.slice none 0 0, .int .i64 1])) w21) ∧ (b23 = false → CallsW Try.prog 27 [.agg #[.bool b14, .int .u64 n15]] w21 (RetR R fun u26 w25 => ∃ (b27 :
    Bool), u26 = .bool b27 ∧ ((b27 = true → R (.returned (.tuple #[.slice none 0 0, .int .i64 1])) w25) ∧ (b27 = false → CallsW Try.prog 26 [.int .u64 n11] w25 (RetR R fun u30 w29 => ∃ (a31 : Option Addr) (l31 c31 : Nat),
    u30 = .slice a31 l31 c31 ∧ SemW Try.prog (Builtin.append_ #[24, 24] 24 #[.slice a7 l7 c7, .slice a31 l31 c31]) (fun u34 w33 => ∃ (a35 : Option Addr) (l35 c35 : Nat), u34 = .slice a35 l35 c35 ∧ ∃ (J36 : Int → World →
    Prop), (((b12 = true → ∀ n37 : Int, n37 = IntKind.u8.wrap ((0 : Int) + 1) → J36 n37 w33) ∧ (b12 = false → J36 0 w33))) ∧ ∀ (n38 : Int) (w39 : World), J36 n38 w39 → ∃ (J40 : Int → World → Prop), (((b14 = true → J40
    (IntKind.u8.wrap (n38 + 2)) w39) ∧ (b14 = false → J40 n38 w39))) ∧ ∀ (n41 : Int) (w42 : World), J40 n41 w42 → ∀ (b43 : Nat) (w44 : World), Alloc w42 w44 b43 (.cells #[.int .u8 n41] 5) → SemW Try.prog (Builtin.append_
    #[24, 24] 24 #[.slice a35 l35 c35, .slice (some ⟨b43, 0, none⟩) 1 1]) (fun u46 w45 => ∃ (a47 : Option Addr) (l47 c47 : Nat), u46 = .slice a47 l47 c47 ∧ ∃ (J48 : Option Addr → Nat → Nat → World → Prop), (((b12 = true →
    CallsW Try.prog 28 [.int .u64 n13] w45 (RetR R fun u50 w49 => ∃ (a51 : Option Addr) (l51 c51 : Nat), u50 = .slice a51 l51 c51 ∧ SemW Try.prog (Builtin.append_ #[24, 24] 24 #[.slice a47 l47 c47, .slice a51 l51 c51])
    (fun u54 w53 => ∃ (a55 : Option Addr) (l55 c55 : Nat), u54 = .slice a55 l55 c55 ∧ J48 a55 l55 c55 w53) w49)) ∧ (b12 = false → J48 a47 l47 c47 w45))) ∧ ∀ (a56 : Option Addr) (l56 c56 : Nat) (w57 : World), J48 a56 l56
    c56 w57 → ((b14 = true → CallsW Try.prog 28 [.int .u64 n15] w57 (RetR R fun u59 w58 => ∃ (a60 : Option Addr) (l60 c60 : Nat), u59 = .slice a60 l60 c60 ∧ SemW Try.prog (Builtin.append_ #[24, 24] 24 #[.slice a56 l56
    c56, .slice a60 l60 c60]) (fun u63 w62 => ∃ (a64 : Option Addr) (l64 c64 : Nat), u63 = .slice a64 l64 c64 ∧ CallsW Try.prog 26 [.int .u64 (IntKind.u64.wrap n16)] w62 (RetR R fun u66 w65 => ∃ (a67 : Option Addr) (l67
    c67 : Nat), u66 = .slice a67 l67 c67 ∧ SemW Try.prog (Builtin.append_ #[24, 24] 24 #[.slice a64 l64 c64, .slice a67 l67 c67]) (fun u70 w69 => ∃ (a71 : Option Addr) (l71 c71 : Nat), u70 = .slice a71 l71 c71 ∧ (I6 a71
    l71 c71 (IntKind.i64.wrap (n8 + 1)) w69 ∧ m6 a71 l71 c71 (IntKind.i64.wrap (n8 + 1)) w69 < m6 a7 l7 c7 n8 w9)) w65)) w58)) ∧ (b14 = false → CallsW Try.prog 26 [.int .u64 (IntKind.u64.wrap n16)] w57 (RetR R fun u73 w72
    => ∃ (a74 : Option Addr) (l74 c74 : Nat), u73 = .slice a74 l74 c74 ∧ SemW Try.prog (Builtin.append_ #[24, 24] 24 #[.slice a56 l56 c56, .slice a74 l74 c74]) (fun u77 w76 => ∃ (a78 : Option Addr) (l78 c78 : Nat), u77 =
    .slice a78 l78 c78 ∧ (I6 a78 l78 c78 (IntKind.i64.wrap (n8 + 1)) w76 ∧ m6 a78 l78 c78 (IntKind.i64.wrap (n8 + 1)) w76 < m6 a7 l7 c7 n8 w9)) w72)))) w44) w29))))))))))))))) ∧ ((decide (n8 > 0)) = false → ∀ w79, Grew
    w17 w79 → (((decide (n16 < 0)) = true → R (.returned (.tuple #[.slice none 0 0, .int .i64 1])) w79) ∧ ((decide (n16 < 0)) = false → (((decide (n16 > 1099511627776)) = true → R (.returned (.tuple #[.slice none 0 0,
    .int .i64 1])) w79) ∧ ((decide (n16 > 1099511627776)) = false → CallsW Try.prog 27 [.agg #[.bool b12, .int .u64 n13]] w79 (RetR R fun u81 w80 => ∃ (b82 : Bool), u81 = .bool b82 ∧ ((b82 = true → R (.returned (.tuple
    #[.slice none 0 0, .int .i64 1])) w80) ∧ (b82 = false → CallsW Try.prog 27 [.agg #[.bool b14, .int .u64 n15]] w80 (RetR R fun u85 w84 => ∃ (b86 : Bool), u85 = .bool b86 ∧ ((b86 = true → R (.returned (.tuple #[.slice
    none 0 0, .int .i64 1])) w84) ∧ (b86 = false → CallsW Try.prog 26 [.int .u64 n11] w84 (RetR R fun u89 w88 => ∃ (a90 : Option Addr) (l90 c90 : Nat), u89 = .slice a90 l90 c90 ∧ SemW Try.prog (Builtin.append_ #[24, 24]
    24 #[.slice a7 l7 c7, .slice a90 l90 c90]) (fun u93 w92 => ∃ (a94 : Option Addr) (l94 c94 : Nat), u93 = .slice a94 l94 c94 ∧ ∃ (J95 : Int → World → Prop), (((b12 = true → ∀ n96 : Int, n96 = IntKind.u8.wrap ((0 : Int)
    + 1) → J95 n96 w92) ∧ (b12 = false → J95 0 w92))) ∧ ∀ (n97 : Int) (w98 : World), J95 n97 w98 → ∃ (J99 : Int → World → Prop), (((b14 = true → J99 (IntKind.u8.wrap (n97 + 2)) w98) ∧ (b14 = false → J99 n97 w98))) ∧ ∀
    (n100 : Int) (w101 : World), J99 n100 w101 → ∀ (b102 : Nat) (w103 : World), Alloc w101 w103 b102 (.cells #[.int .u8 n100] 5) → SemW Try.prog (Builtin.append_ #[24, 24] 24 #[.slice a94 l94 c94, .slice (some ⟨b102, 0,
    none⟩) 1 1]) (fun u105 w104 => ∃ (a106 : Option Addr) (l106 c106 : Nat), u105 = .slice a106 l106 c106 ∧ ∃ (J107 : Option Addr → Nat → Nat → World → Prop), (((b12 = true → CallsW Try.prog 28 [.int .u64 n13] w104 (RetR
    R fun u109 w108 => ∃ (a110 : Option Addr) (l110 c110 : Nat), u109 = .slice a110 l110 c110 ∧ SemW Try.prog (Builtin.append_ #[24, 24] 24 #[.slice a106 l106 c106, .slice a110 l110 c110]) (fun u113 w112 => ∃ (a114 :
    Option Addr) (l114 c114 : Nat), u113 = .slice a114 l114 c114 ∧ J107 a114 l114 c114 w112) w108)) ∧ (b12 = false → J107 a106 l106 c106 w104))) ∧ ∀ (a115 : Option Addr) (l115 c115 : Nat) (w116 : World), J107 a115 l115
    c115 w116 → ((b14 = true → CallsW Try.prog 28 [.int .u64 n15] w116 (RetR R fun u118 w117 => ∃ (a119 : Option Addr) (l119 c119 : Nat), u118 = .slice a119 l119 c119 ∧ SemW Try.prog (Builtin.append_ #[24, 24] 24 #[.slice
    a115 l115 c115, .slice a119 l119 c119]) (fun u122 w121 => ∃ (a123 : Option Addr) (l123 c123 : Nat), u122 = .slice a123 l123 c123 ∧ CallsW Try.prog 26 [.int .u64 (IntKind.u64.wrap n16)] w121 (RetR R fun u125 w124 => ∃
    (a126 : Option Addr) (l126 c126 : Nat), u125 = .slice a126 l126 c126 ∧ SemW Try.prog (Builtin.append_ #[24, 24] 24 #[.slice a123 l123 c123, .slice a126 l126 c126]) (fun u129 w128 => ∃ (a130 : Option Addr) (l130 c130 :
    Nat), u129 = .slice a130 l130 c130 ∧ (I6 a130 l130 c130 (IntKind.i64.wrap (n8 + 1)) w128 ∧ m6 a130 l130 c130 (IntKind.i64.wrap (n8 + 1)) w128 < m6 a7 l7 c7 n8 w9)) w124)) w117)) ∧ (b14 = false → CallsW Try.prog 26
    [.int .u64 (IntKind.u64.wrap n16)] w116 (RetR R fun u132 w131 => ∃ (a133 : Option Addr) (l133 c133 : Nat), u132 = .slice a133 l133 c133 ∧ SemW Try.prog (Builtin.append_ #[24, 24] 24 #[.slice a115 l115 c115, .slice
    a133 l133 c133]) (fun u136 w135 => ∃ (a137 : Option Addr) (l137 c137 : Nat), u136 = .slice a137 l137 c137 ∧ (I6 a137 l137 c137 (IntKind.i64.wrap (n8 + 1)) w135 ∧ m6 a137 l137 c137 (IntKind.i64.wrap (n8 + 1)) w135 < m6
    a7 l7 c7 n8 w9)) w131)))) w103) w88))))))))))))))) ∧ ((decide (n8 < ((d_n : Nat) : Int))) = false → R (.returned (.tuple #[.slice a7 l7 c7, .int .i64 0])) w9)))))))
theorem sx11.ok {d : Option Addr} {d_n d_c : Nat} {R : Ending → World → Prop} {w : World} (h : sx11 d d_n d_c R w) : CallsW Try.prog 11 [.slice d d_n d_c] w R :=
  callsW_of mix Try.func11 (by kernel_rfl) (by kernel_rfl) (Eq.mpr (by kernel_rfl : denFn Try.prog { locals := [6], sem := [63, 77, 86, 95, 101], named := [16, 68], loops := [(7, { slots := [(4, .slice), (5, .int .i64)], cells := [] })], cuts := [(18, { slots := [(7, .int .u8)], cells := [] }), (20, { slots := [(7, .int .u8)], cells := [] }), (23, { slots := [(4, .slice)], cells := [] })] } Try.f11 [.slice d d_n d_c] R w = sx11 d d_n d_c R w) h)


theorem rPut_ok {x : Int} {w : World} (h0 : 0 ≤ x) (h1 : x < u64m) : CallsW Try.prog 26 [.int .u64 x] w (Rets (Fresh w 5 (Enc.int .u8) (putB x))) := by
  refine sx26.ok ?_
  unfold sx26
  have h10 := putB_len10 h1
  intro b1 w2 hal
  have hoe := Own.alloc (E := Enc.int .u8) (l := []) hal (Nat.le_refl _) rfl (by decide)
  refine ⟨fun x' a' n' c' w' => ∃ done, Own w' w.heap.size 5 (Enc.int .u8) a' n' c' done ∧ done ++ putB x' = putB x ∧ 0 ≤ x' ∧ x' < u64m ∧ Grew w w', fun x' _ _ _ _ => x'.toNat, ⟨[], hoe, rfl, h0, h1, hal.grew⟩, ?_⟩
  rintro x' a' n' c' w' ⟨done, ho', hd, hx0, hx1, hg⟩
  have hlen : done.length + (putB x').length ≤ 10 := by rw [← List.length_append, hd]; exact h10
  have hpos := putB_pos x'
  refine ⟨fun hge => ⟨fun h => by simp at h, fun _ => ?_⟩, fun hlt b1 w1 hal => ?_⟩
  · simp only [decide_eq_true_eq] at hge
    rintro y rfl b1 w1 hal
    have hm : Int.tmod x' 128 = x' % 128 := Int.tmod_eq_emod_of_nonneg hx0
    refine append_new (l2 := [x' % 128 + 128]) e8 ho' hal (by rw [hm, IntKind.wrap_u8', IntKind.wrap_u8']; simp only [List.flatMap_cons, List.flatMap_nil, Enc.int, List.append_nil, List.cons.injEq, and_true, Value.int.injEq, true_and]; omega) rfl hg.size (by simp [maxLen]; omega) (by simp; omega) ?_
    rintro v w2 ⟨a2, n2, c2, rfl, ho2, hu2, hb2⟩
    refine ⟨a2, n2, c2, rfl, fun h => by simp at h, fun _ y hy => ?_⟩
    have hy' : y = x' / 128 := by rw [hy, Int.tdiv_eq_ediv_of_nonneg hx0, IntKind.wrap_u64]; simp only [u64m] at hx1; omega
    subst hy'
    have hp := putB_ge (x := x') (by omega)
    refine ⟨⟨done ++ [x' % 128 + 128], ho2, by rw [List.append_assoc, ← hd, hp]; rfl, by omega, by simp only [u64m] at *; omega, hg.then_own hu2 fun b hb => (ho'.blk hb).1⟩, by show (x' / 128).toNat < x'.toNat; omega⟩
  · simp only [decide_eq_false_iff_not, ge_iff_le] at hlt
    have hlt' : x' < 128 := by omega
    refine append_new (l2 := [x']) e8 ho' hal (by rw [IntKind.wrap_u8', Int.emod_eq_of_lt hx0 (by omega)]; rfl) rfl hg.size (by simp [maxLen]; omega) (by simp; omega) ?_
    rintro v w2 ⟨a2, n2, c2, rfl, ho2, hu2, hb2⟩
    rw [putB_lt hlt'] at hd
    rw [hd] at ho2
    exact ⟨a2, n2, c2, rfl, _, rfl, a2, n2, c2, rfl, ho2, hg.then_own hu2 fun b hb => (ho'.blk hb).1⟩

theorem rWord_ok {x : Int} {w : World} (h0 : 0 ≤ x) (h1 : x < u64m) : CallsW Try.prog 28 [.int .u64 x] w (Rets (Fresh w 5 (Enc.int .u8) (wordB x))) := by
  refine sx28.ok ?_
  unfold sx28
  intro b1 w2 hal
  have hoe := Own.alloc (E := Enc.int .u8) (l := []) hal (Nat.le_refl _) rfl (by decide)
  refine ⟨fun x' a' n' c' i w' => ∃ k : Nat, i = k ∧ k ≤ 8 ∧ x' = x / 256 ^ k ∧ Own w' w.heap.size 5 (Enc.int .u8) a' n' c' ((wordB x).take k) ∧ Grew w w', fun _ _ _ _ i _ => 8 - i.toNat, ⟨0, rfl, by decide, by simp, hoe, hal.grew⟩, ?_⟩
  rintro x' a' n' c' i w' ⟨k, rfl, hk, rfl, ho, hg⟩
  have hx0 : 0 ≤ x / 256 ^ k := Int.ediv_nonneg h0 (Int.le_of_lt (Int.pow_pos (by decide)))
  have hx1 : x / 256 ^ k < u64m := Int.lt_of_le_of_lt (Int.ediv_le_self _ h0) h1
  refine ⟨fun hlt => ⟨fun h => by simp at h, fun _ => ?_⟩, fun hge => ?_⟩
  · simp only [decide_eq_true_eq] at hlt
    rintro y rfl b1 w1 hal
    have hlen : ((wordB x).take k).length = k := by simp [wordB]; omega
    have hm : IntKind.u8.wrap (Int.tmod (x / 256 ^ k) 256) = x / 256 ^ k % 256 := by rw [Int.tmod_eq_emod_of_nonneg hx0, IntKind.wrap_u8']; omega
    refine append_new (l2 := [x / 256 ^ k % 256]) e8 ho hal (by rw [hm]; rfl) rfl hg.size (by simp [maxLen, hlen]; omega) (by simp [hlen]; omega) ?_
    rintro v w2 ⟨a2, n2, c2, rfl, ho2, hu2, hb2⟩
    refine ⟨a2, n2, c2, rfl, fun h => by simp at h, fun _ y hy => ?_⟩
    have hy' : y = x / 256 ^ (k + 1) := by
      rw [hy, Int.tdiv_eq_ediv_of_nonneg hx0, IntKind.wrap_u64, Int.pow_succ, ← Int.ediv_ediv_of_nonneg (Int.le_of_lt (Int.pow_pos (by decide)))]
      simp only [u64m] at hx1; omega
    subst hy'
    have hw : IntKind.i64.wrap ((k : Int) + 1) = ((k + 1 : Nat) : Int) := by rw [IntKind.wrap_i64]; omega
    rw [hw]
    refine ⟨⟨k + 1, rfl, by omega, rfl, ?_, hg.then_own hu2 fun b hb => (ho.blk hb).1⟩, by show 8 - (((k + 1 : Nat) : Int)).toNat < 8 - ((k : Int)).toNat; omega⟩
    have e : (wordB x)[k]? = some (x / 256 ^ k % 256) := by
      rcases (by omega : k = 0 ∨ k = 1 ∨ k = 2 ∨ k = 3 ∨ k = 4 ∨ k = 5 ∨ k = 6 ∨ k = 7) with rfl | rfl | rfl | rfl | rfl | rfl | rfl | rfl <;> simp [wordB]
    rw [take_snoc e]; exact ho2
  · simp only [decide_eq_false_iff_not] at hge
    have hk8 : k = 8 := by omega
    subst hk8
    exact ⟨_, rfl, a', n', c', rfl, ho, hg⟩

theorem raw_ok {h : Bool} {x : Int} {w : World} : CallsW Try.prog 27 [.agg #[.bool h, .int .u64 x]] w (Rets fun v w' => v = .bool (!valOk h x) ∧ Grew w w') := by
  refine sx27.ok ?_
  unfold sx27
  intro w1 hg
  refine ⟨fun hh => ⟨_, rfl, ?_, hg⟩, fun hh => ⟨_, rfl, ?_, hg⟩⟩ <;> cases h <;> simp [valOk] at hh ⊢
  rfl

theorem pushR_ok {w0 w w' : World} {a a2 : Option Addr} {n c n2 c2 : Nat} {l l2 : List Int} {k : Value → World → Prop} (ho : Own w w0.heap.size 5 (Enc.int .u8) a n c l) (hg : Grew w0 w) (hf : Reads w' (Enc.int .u8) (a2, n2, c2) l2) (hg2 : Grew w w')
    (hlen : l.length + l2.length ≤ 140737488351232) (hk : ∀ a3 n3 c3 w3, Own w3 w0.heap.size 5 (Enc.int .u8) a3 n3 c3 (l ++ l2) → Grew w0 w3 → k (.slice a3 n3 c3) w3) :
    SemW Try.prog (Builtin.append_ #[24, 24] 24 #[.slice a n c, .slice a2 n2 c2]) k w' := by
  refine append_sl e8 (ho.grew hg2) hf.1 hf.2.1 hf.2.2.1 (Nat.le_trans hg.size hg2.size) (by simp only [maxLen]; omega) (by omega) ?_
  rintro v w3 ⟨a3, n3, c3, rfl, ho3, hu3, -⟩
  exact hk a3 n3 c3 w3 ho3 ((hg.trans hg2).then_own hu3 fun b hb => (ho.blk hb).1)

theorem push_ok {w0 w w' : World} {a a2 : Option Addr} {n c n2 c2 : Nat} {l l2 : List Int} {k : Value → World → Prop} (ho : Own w w0.heap.size 5 (Enc.int .u8) a n c l) (hg : Grew w0 w) (hf : Own w' w.heap.size 5 (Enc.int .u8) a2 n2 c2 l2) (hg2 : Grew w w')
    (hlen : l.length + l2.length ≤ 1099511627776) (hk : ∀ a3 n3 c3 w3, Own w3 w0.heap.size 5 (Enc.int .u8) a3 n3 c3 (l ++ l2) → Grew w0 w3 → k (.slice a3 n3 c3) w3) :
    SemW Try.prog (Builtin.append_ #[24, 24] 24 #[.slice a n c, .slice a2 n2 c2]) k w' := by
  refine append_sl e8 (ho.grew hg2) hf.sl hf.len hf.out_none (Nat.le_trans hg.size hg2.size) (by simp only [maxLen]; omega) (by omega) ?_
  rintro v w3 ⟨a3, n3, c3, rfl, ho3, hu3, -⟩
  exact hk a3 n3 c3 w3 ho3 ((hg.trans hg2).then_own hu3 fun b hb => (ho.blk hb).1)
theorem push_new {w0 w w' : World} {a : Option Addr} {n c b : Nat} {l : List Int} {x : Int} {k : Value → World → Prop} (ho : Own w w0.heap.size 5 (Enc.int .u8) a n c l) (hg : Grew w0 w) (hal : Alloc w w' b (.cells #[.int .u8 x] 5))
    (hlen : l.length + 1 ≤ 1099511627776) (hk : ∀ a3 n3 c3 w3, Own w3 w0.heap.size 5 (Enc.int .u8) a3 n3 c3 (l ++ [x]) → Grew w0 w3 → k (.slice a3 n3 c3) w3) :
    SemW Try.prog (Builtin.append_ #[24, 24] 24 #[.slice a n c, .slice (some ⟨b, 0, none⟩) 1 1]) k w' := by
  refine push_ok (l2 := [x]) ho hg (Own.alloc (l := [x]) hal (Nat.le_refl _) rfl (by simp [maxLen])) hal.grew (by simpa using hlen) hk

theorem rEncode_ok {a : Option Addr} {n c : Nat} {l : List CellV} {w : World} (hr : Reads w Enc.cell (a, n, c) l) (hf : Cells l) (hn : l.length ≤ 9223372036854775807) : CallsW Try.prog 11 [.slice a n c] w (Rets (BytesErr w (encodeB l))) := by
  refine sx11.ok ?_
  unfold sx11
  have hnl : n = l.length := hr.2.1
  have hnc : n ≤ c := hr.2.2.2
  subst hnl
  refine ⟨fun h => ?_, fun h16 => ⟨fun h => ?_, fun h0 => ?_⟩⟩
  · simp only [decide_eq_true_eq] at h
    refine ⟨_, rfl, ?_⟩
    rw [encodeB, if_pos (by omega)]; exact .no (Grew.refl _) _
  · simp only [beq_iff_eq] at h
    refine ⟨_, rfl, ?_⟩
    rw [encodeB, if_neg (by omega), if_pos (List.eq_nil_of_length_eq_zero (by omega))]; exact .no (Grew.refl _) _
  simp only [decide_eq_false_iff_not] at h16
  simp only [beq_eq_false_iff_ne, ne_eq] at h0
  have henc : encodeB l = encGo (putB l.length) none l := by rw [encodeB, if_neg (by omega), if_neg (fun h => by rw [h] at h0; exact h0 rfl)]
  rintro n1 rfl
  have hwl : IntKind.u64.wrap (l.length : Int) = l.length := by rw [IntKind.wrap_u64]; omega
  rw [hwl]
  have hu : (l.length : Int) < u64m := by simp only [u64m]; omega
  refine (rPut_ok (by omega) hu).use fun v w2 ⟨a4, l4, c4, hv, ho4, hg4⟩ => ?_
  subst hv
  have hp10 := putB_len10 hu
  refine ⟨a4, l4, c4, rfl, fun a7 l7 c7 i w' => ∃ (k : Nat) (acc : List Int), i = k ∧ k ≤ l.length ∧ Own w' w.heap.size 5 (Enc.int .u8) a7 l7 c7 acc ∧ Grew w w' ∧ acc.length ≤ 10 + 37 * k ∧ encodeB l = encGo acc (if k = 0 then none else (l[k - 1]?).map CellV.key) (l.drop k), fun _ _ _ i _ => l.length - i.toNat, ⟨0, _, rfl, Nat.zero_le _, ho4, hg4, by omega, henc⟩, ?_⟩
  rintro a7 l7 c7 i w' ⟨k, acc, rfl, hk, ho, hg, hal, he⟩
  refine ⟨fun hlt => ?_, fun hge => ?_⟩
  · simp only [decide_eq_true_eq] at hlt
    obtain ⟨d, x, had, hx, hc⟩ := (hr.grew hg).1.at_ (n := k) (by omega) hlt
    obtain rfl : a = some d := had
    simp only [Int.toNat_natCast] at hx hc
    rw [drop_cons hx, encGo] at he
    have hxf := hf.get hx
    have hw1 : IntKind.i64.wrap ((k : Int) - 1) = (k : Int) - 1 := by rw [IntKind.wrap_i64]; omega
    have hw2 : IntKind.i64.wrap ((k : Int) + 1) = ((k + 1 : Nat) : Int) := by rw [IntKind.wrap_i64]; omega
    rw [hw1, hw2]
    have hwb : IntKind.u64.wrap x.batch = x.batch % u64m := by rw [IntKind.wrap_u64]; rfl
    have hb0 : 0 ≤ x.batch % u64m := Int.emod_nonneg _ (by decide)
    have hb1 : x.batch % u64m < u64m := Int.emod_lt_of_pos _ (by decide)
    have hcl := cellB_len hxf
    have hc5 : (putB x.key).length + 1 + (valB x.ph x.pb).length + (valB x.ch x.cb).length + (putB (x.batch % u64m)).length ≤ 37 := by simp only [cellB, List.length_append, List.length_singleton] at hcl; omega
    have key0 := hxf.k0; have key1 := hxf.k1; have p0 := hxf.p0; have p1 := hxf.p1; have c0 := hxf.c0; have c1 := hxf.c1
    refine ⟨by omega, x.key, x.ph, x.pb, x.ch, x.cb, x.batch, by simpa [CellV.vals, Enc.cell] using hc, fun w17 hg17 => ⟨fun hpos => ?a, fun hpos w20 hg20 => ?b⟩⟩
    case' a =>
      simp only [decide_eq_true_eq] at hpos
      obtain ⟨d', y, hd', hy, hcy⟩ := ((hr.grew hg).grew hg17).1.at_ (n := ((k - 1 : Nat) : Int)) (by omega) (by omega)
      obtain rfl : d = d' := by cases hd'; rfl
      simp only [Int.toNat_natCast] at hy hcy
      have hk1 : ((k : Int) - 1) = ((k - 1 : Nat) : Int) := by omega
      have hk0 : ¬ k = 0 := by omega
      rw [hk1]
      rw [if_neg hk0, hy] at he
      refine ⟨by omega, y.key, by simpa [Addr.add_zero', Enc.cell] using hcy.1, fun w20 hg20 => ⟨fun hle => ?c, fun hle => ?d⟩⟩
      case c =>
        rw [if_pos (by simpa using hle)] at he
        exact ⟨_, rfl, by rw [he]; exact .no (hg.trans (hg17.trans hg20)) _⟩
      rw [if_neg (by simpa using hle)] at he
    case' b =>
      simp only [decide_eq_false_iff_not] at hpos
      have hk0 : k = 0 := by omega
      rw [if_pos hk0, if_neg (by simp [Option.any])] at he
    all_goals
      have hgA : Grew w' w20 := hg17.trans hg20
      have hgA' := hg.trans hgA
      have bad : (x.batch < 0 ∨ 1099511627776 < x.batch ∨ valOk x.ph x.pb = false ∨ valOk x.ch x.cb = false) → encodeB l = ([], 1) := fun h => by rw [he, if_pos h]
      refine ⟨fun hb => ⟨_, rfl, by rw [bad (.inl (by simpa using hb))]; exact .no hgA' _⟩, fun hb => ⟨fun hb2 => ⟨_, rfl, by rw [bad (.inr (.inl (by simpa using hb2)))]; exact .no hgA' _⟩, fun hb2 => ?_⟩⟩
      refine raw_ok.use fun v w21 ⟨hv, hg21⟩ => ?_
      subst hv
      refine ⟨_, rfl, fun hv1 => ⟨_, rfl, by rw [bad (.inr (.inr (.inl (by simpa using hv1))))]; exact .no (hgA'.trans hg21) _⟩, fun hv1 => ?_⟩
      refine raw_ok.use fun v w25 ⟨hv, hg25⟩ => ?_
      subst hv
      refine ⟨_, rfl, fun hv2 => ⟨_, rfl, by rw [bad (.inr (.inr (.inr (by simpa using hv2))))]; exact .no ((hgA'.trans hg21).trans hg25) _⟩, fun hv2 => ?_⟩
      have good : ¬ (x.batch < 0 ∨ 1099511627776 < x.batch ∨ valOk x.ph x.pb = false ∨ valOk x.ch x.cb = false) := by
        simp only [decide_eq_false_iff_not] at hb hb2
        have e1 : valOk x.ph x.pb = true := by simpa using hv1
        have e2 : valOk x.ch x.cb = true := by simpa using hv2
        rw [e1, e2]; simp; omega
      rw [if_neg good] at he
      have hgC : Grew w' w25 := (hgA.trans hg21).trans hg25
      refine (rPut_ok key0 key1).use fun v w29 ⟨a31, l31, c31, hv, ho31, hg31⟩ => ?_
      subst hv
      refine ⟨a31, l31, c31, rfl, push_ok (ho.grew hgC) (hg.trans hgC) ho31 hg31 (by omega) fun a35 l35 c35 w33 ho33 hg33 => ?_⟩
      refine ⟨_, _, _, rfl, fun n w' => n = (if x.ph = true then 1 else 0) ∧ w' = w33, ⟨fun hp => ?_, fun hp => ⟨by simp [hp], rfl⟩⟩, ?_⟩
      · rintro _ rfl
        exact ⟨by rw [if_pos hp]; decide, rfl⟩
      rintro n38 w39 ⟨rfl, rfl⟩
      refine ⟨fun n w' => n = flagsOf x ∧ w' = w39, ⟨fun hq => ⟨?_, rfl⟩, fun hq => ⟨?_, rfl⟩⟩, ?_⟩
      · cases hh : x.ph <;> simp [flagsOf, hq, hh] <;> decide
      · simp [flagsOf, hq]
      rintro n41 w42 ⟨rfl, rfl⟩ b43 w44 hal44
      refine push_new ho33 hg33 hal44 (by simp only [List.length_append]; omega) fun a47 l47 c47 w45 ho45 hg45 => ?_
      refine ⟨_, _, _, rfl, fun a l c w' => Own w' w.heap.size 5 (Enc.int .u8) a l c (acc ++ putB x.key ++ [flagsOf x] ++ valB x.ph x.pb) ∧ Grew w w', ⟨fun hp => ?_, fun hp => ?_⟩, ?_⟩
      · refine (rWord_ok p0 p1).use fun v w49 ⟨a51, l51, c51, hv, ho51, hg51⟩ => ?_
        subst hv
        exact ⟨_, _, _, rfl, push_ok ho45 hg45 ho51 hg51 (by simp only [List.length_append, List.length_singleton, wordB_len]; omega) fun a3 n3 c3 w3 ho3 hg3 => ⟨_, _, _, rfl, by rw [valB, if_pos hp]; exact ho3, hg3⟩⟩
      · exact ⟨by rw [valB, if_neg (by simp [hp]), List.append_nil]; exact ho45, hg45⟩
      rintro a56 l56 c56 w57 ⟨ho57, hg57⟩
      have hacc : acc ++ putB x.key ++ [flagsOf x] ++ valB x.ph x.pb ++ valB x.ch x.cb ++ putB (x.batch % u64m) = acc ++ cellB x := by simp [cellB]
      have hl57 : (acc ++ putB x.key ++ [flagsOf x] ++ valB x.ph x.pb).length ≤ 1000 := by simp only [List.length_append, List.length_singleton]; omega
      have fin : ∀ a3 n3 c3 w3, Own w3 w.heap.size 5 (Enc.int .u8) a3 n3 c3 (acc ++ cellB x) → Grew w w3 → ∃ (q : Nat) (acc' : List Int), ((k + 1 : Nat) : Int) = q ∧ q ≤ l.length ∧ Own w3 w.heap.size 5 (Enc.int .u8) a3 n3 c3 acc' ∧ Grew w w3 ∧ acc'.length ≤ 10 + 37 * q ∧ encodeB l = encGo acc' (if q = 0 then none else (l[q - 1]?).map CellV.key) (l.drop q) := by
        intro a3 n3 c3 w3 ho3 hg3
        refine ⟨k + 1, _, rfl, by omega, ho3, hg3, by simp only [List.length_append]; omega, ?_⟩
        rw [he]
        simp only [Nat.add_one_ne_zero, if_false, Nat.add_sub_cancel]
        rw [hx]; rfl
      refine ⟨fun hq => ?_, fun hq => ?_⟩
      · refine (rWord_ok c0 c1).use fun v w49 ⟨a51, l51, c51, hv, ho51, hg51⟩ => ?_
        subst hv
        refine ⟨_, _, _, rfl, push_ok ho57 hg57 ho51 hg51 (by simp only [wordB_len]; omega) fun a3 n3 c3 w3 ho3 hg3 => ⟨_, _, _, rfl, ?_⟩⟩
        rw [hwb]
        refine (rPut_ok hb0 hb1).use fun v w65 ⟨a67, l67, c67, hv, ho67, hg67⟩ => ?_
        subst hv
        refine ⟨_, _, _, rfl, push_ok ho3 hg3 ho67 hg67 (by simp only [List.length_append, wordB_len] at *; omega) fun a4 n4 c4 w4 ho4 hg4 => ⟨_, _, _, rfl, ?_, ?_⟩⟩
        · exact fin a4 n4 c4 w4 (by rw [← hacc, valB.eq_def x.ch, if_pos hq]; exact ho4) hg4
        · show l.length - (((k + 1 : Nat) : Int)).toNat < l.length - ((k : Int)).toNat
          omega
      · rw [hwb]
        refine (rPut_ok hb0 hb1).use fun v w65 ⟨a67, l67, c67, hv, ho67, hg67⟩ => ?_
        subst hv
        refine ⟨_, _, _, rfl, push_ok ho57 hg57 ho67 hg67 (by omega) fun a4 n4 c4 w4 ho4 hg4 => ⟨_, _, _, rfl, ?_, ?_⟩⟩
        · exact fin a4 n4 c4 w4 (by rw [← hacc, valB.eq_def x.ch, if_neg (by simp [hq]), List.append_nil]; exact ho4) hg4
        · show l.length - (((k + 1 : Nat) : Int)).toNat < l.length - ((k : Int)).toNat
          omega
  · simp only [decide_eq_false_iff_not] at hge
    rw [drop_all (by omega), encGo] at he
    exact ⟨_, rfl, by rw [he]; exact ⟨a7, l7, c7, rfl, ho, hg⟩⟩
end Go.Proofs.Ytnbknhcpjggabaa
