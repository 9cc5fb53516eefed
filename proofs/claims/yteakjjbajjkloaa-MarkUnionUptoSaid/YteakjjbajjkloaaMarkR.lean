/- What the reference's Rising, Sound, Encode, count, Decode, Compare, Judge, Has, With and Union hand back. Conditions: none. -/
import Derived.Test.YteakjjbajjkloaaProg
import Derived.Test.YteakjjbajjkloaaMark3
import Derived.Test.YteakjjbajjkloaaRefPut
import Derived.Test.YteakjjbajjkloaaRefTake
namespace Go.Proofs.Yteakjjbajjkloaa
open Go.Sx
set_option maxRecDepth 100000
set_option linter.unusedVariables false
set_option linter.unusedSimpArgs false
/- reprise/repriseref12.Rising -/
def sx27 (keys : Option Addr) (keys_n keys_c : Nat) (R : Ending → World → Prop) (w : World) : Prop :=
  ∃ (I1 : Int → World → Prop) (m1 : Int → World → Nat), I1 1 w ∧ ∀ (n2 : Int) (w3 : World), I1 n2 w3 → (((decide (n2 < ((keys_n : Nat) : Int))) = true → withSome keys (fun d4 => (0 ≤ n2 ∧ n2 < (keys_n : Nat)) ∧ ∃ (n5 :
    Int), w3.cell? (Addr.add d4 (n2.toNat * 1)) = some (.int .u64 n5) ∧ withSome keys (fun d6 => (0 ≤ (IntKind.i64.wrap (n2 - 1)) ∧ (IntKind.i64.wrap (n2 - 1)) < (keys_n : Nat)) ∧ ∃ (n7 : Int), w3.cell? (Addr.add d6
    ((IntKind.i64.wrap (n2 - 1)).toNat * 1)) = some (.int .u64 n7) ∧ ∀ w8, Grew w3 w8 → (((decide (n5 ≤ n7)) = true → R (.returned (.bool false)) w8) ∧ ((decide (n5 ≤ n7)) = false → (I1 (IntKind.i64.wrap (n2 + 1)) w8 ∧ m1
    (IntKind.i64.wrap (n2 + 1)) w8 < m1 n2 w3)))))) ∧ ((decide (n2 < ((keys_n : Nat) : Int))) = false → R (.returned (.bool true)) w3))
theorem sx27.ok {keys : Option Addr} {keys_n keys_c : Nat} {R : Ending → World → Prop} {w : World} (h : sx27 keys keys_n keys_c R w) : CallsW Try.prog 27 [.slice keys keys_n keys_c] w R :=
  callsW_of mix Try.func27 (by kernel_rfl) (by kernel_rfl) (Eq.mpr (by kernel_rfl : denFn Try.prog { loops := [(2, { slots := [(3, .int .i64)], cells := [] })] } Try.f27 [.slice keys keys_n keys_c] R w = sx27 keys keys_n keys_c R w) h)

/- reprise/repriseref12.Sound -/
def sx15 (m_0 : Int) (m_1 : Int) (m_2 : Option Addr) (m_2_n m_2_c : Nat) (R : Ending → World → Prop) (w : World) : Prop :=
  ∀ w1, Grew w w1 → (((decide (m_0 < 0)) = true → R (.returned (.bool false)) w1) ∧ ((decide (m_0 < 0)) = false → (((decide (m_0 > 1099511627776)) = true → R (.returned (.bool false)) w1) ∧ ((decide (m_0 > 1099511627776)) =
    false → (((decide (m_1 < 0)) = true → R (.returned (.bool false)) w1) ∧ ((decide (m_1 < 0)) = false → (((decide (m_1 > 1099511627776)) = true → R (.returned (.bool false)) w1) ∧ ((decide (m_1 > 1099511627776)) = false
    → (((decide (((m_2_n : Nat) : Int) > 64)) = true → R (.returned (.bool false)) w1) ∧ ((decide (((m_2_n : Nat) : Int) > 64)) = false → CallsW Try.prog 27 [.slice m_2 m_2_n m_2_c] w1 (RetR R fun u3 w2 => ∃ (b4 : Bool),
    u3 = .bool b4 ∧ (((!b4) = true → R (.returned (.bool false)) w2) ∧ ((!b4) = false → (((m_0 == 0) = true → (((m_0 == 0) = true → (((m_1 == 0) = true → R (.returned (.bool (((m_2_n : Nat) : Int) == 0))) w2) ∧ ((m_1 ==
    0) = false → R (.returned (.bool false)) w2))) ∧ ((m_0 == 0) = false → R (.returned (.bool false)) w2))) ∧ ((m_0 == 0) = false → (((m_1 == 0) = true → (((m_0 == 0) = true → (((m_1 == 0) = true → R (.returned (.bool
    (((m_2_n : Nat) : Int) == 0))) w2) ∧ ((m_1 == 0) = false → R (.returned (.bool false)) w2))) ∧ ((m_0 == 0) = false → R (.returned (.bool false)) w2))) ∧ ((m_1 == 0) = false → R (.returned (.bool true))
    w2)))))))))))))))))
theorem sx15.ok {m_0 : Int} {m_1 : Int} {m_2 : Option Addr} {m_2_n m_2_c : Nat} {R : Ending → World → Prop} {w : World} (h : sx15 m_0 m_1 m_2 m_2_n m_2_c R w) : CallsW Try.prog 15 [.agg #[.int .i64 m_0, .int .i64 m_1, .slice m_2 m_2_n m_2_c]] w R :=
  callsW_of mix Try.func15 (by kernel_rfl) (by kernel_rfl) (Eq.mpr (by kernel_rfl : denFn Try.prog { locals := [1] } Try.f15 [.agg #[.int .i64 m_0, .int .i64 m_1, .slice m_2 m_2_n m_2_c]] R w = sx15 m_0 m_1 m_2 m_2_n m_2_c R w) h)

/- reprise/repriseref12.Encode -/
def sx13 (m_0 : Int) (m_1 : Int) (m_2 : Option Addr) (m_2_n m_2_c : Nat) (R : Ending → World → Prop) (w : World) : Prop :=
  ∀ w1, Grew w w1 → CallsW Try.prog 15 [.agg #[.int .i64 m_0, .int .i64 m_1, .slice m_2 m_2_n m_2_c]] w1 (RetR R fun u3 w2 => ∃ (b4 : Bool), u3 = .bool b4 ∧ (((!b4) = true → R (.returned (.tuple #[.slice none 0 0, .int .i64
    1])) w2) ∧ ((!b4) = false → CallsW Try.prog 32 [.int .u64 (IntKind.u64.wrap m_0)] w2 (RetR R fun u7 w6 => ∃ (a8 : Option Addr) (l8 c8 : Nat), u7 = .slice a8 l8 c8 ∧ CallsW Try.prog 32 [.int .u64 (IntKind.u64.wrap
    m_1)] w6 (RetR R fun u11 w10 => ∃ (a12 : Option Addr) (l12 c12 : Nat), u11 = .slice a12 l12 c12 ∧ SemW Try.prog (Builtin.append_ #[26, 26] 26 #[.slice a8 l8 c8, .slice a12 l12 c12]) (fun u15 w14 => ∃ (a16 : Option
    Addr) (l16 c16 : Nat), u15 = .slice a16 l16 c16 ∧ ∀ n17 : Int, n17 = IntKind.u64.wrap ((m_2_n : Nat) : Int) → CallsW Try.prog 32 [.int .u64 n17] w14 (RetR R fun u19 w18 => ∃ (a20 : Option Addr) (l20 c20 : Nat), u19 =
    .slice a20 l20 c20 ∧ SemW Try.prog (Builtin.append_ #[26, 26] 26 #[.slice a16 l16 c16, .slice a20 l20 c20]) (fun u23 w22 => ∃ (a24 : Option Addr) (l24 c24 : Nat), u23 = .slice a24 l24 c24 ∧ ∃ (I25 : Option Addr → Nat
    → Nat → Int → World → Prop) (m25 : Option Addr → Nat → Nat → Int → World → Nat), I25 a24 l24 c24 0 w22 ∧ ∀ (a26 : Option Addr) (l26 c26 : Nat) (n27 : Int) (w28 : World), I25 a26 l26 c26 n27 w28 → (((decide (n27 <
    ((m_2_n : Nat) : Int))) = true → withSome m_2 (fun d29 => (0 ≤ n27 ∧ n27 < (m_2_n : Nat)) ∧ ∃ (n30 : Int), w28.cell? (Addr.add d29 (n27.toNat * 1)) = some (.int .u64 n30) ∧ CallsW Try.prog 32 [.int .u64 n30] w28 (RetR
    R fun u32 w31 => ∃ (a33 : Option Addr) (l33 c33 : Nat), u32 = .slice a33 l33 c33 ∧ SemW Try.prog (Builtin.append_ #[26, 26] 26 #[.slice a26 l26 c26, .slice a33 l33 c33]) (fun u36 w35 => ∃ (a37 : Option Addr) (l37 c37
    : Nat), u36 = .slice a37 l37 c37 ∧ (I25 a37 l37 c37 (IntKind.i64.wrap (n27 + 1)) w35 ∧ m25 a37 l37 c37 (IntKind.i64.wrap (n27 + 1)) w35 < m25 a26 l26 c26 n27 w28)) w31))) ∧ ((decide (n27 < ((m_2_n : Nat) : Int))) =
    false → R (.returned (.tuple #[.slice a26 l26 c26, .int .i64 0])) w28))) w18)) w10)))))
theorem sx13.ok {m_0 : Int} {m_1 : Int} {m_2 : Option Addr} {m_2_n m_2_c : Nat} {R : Ending → World → Prop} {w : World} (h : sx13 m_0 m_1 m_2 m_2_n m_2_c R w) : CallsW Try.prog 13 [.agg #[.int .i64 m_0, .int .i64 m_1, .slice m_2 m_2_n m_2_c]] w R :=
  callsW_of mix Try.func13 (by kernel_rfl) (by kernel_rfl) (Eq.mpr (by kernel_rfl : denFn Try.prog { locals := [1], sem := [18, 25, 40], named := [23], loops := [(7, { slots := [(4, .slice), (5, .int .i64)], cells := [] })] } Try.f13 [.agg #[.int .i64 m_0, .int .i64 m_1, .slice m_2 m_2_n m_2_c]] R w = sx13 m_0 m_1 m_2 m_2_n m_2_c R w) h)

/- reprise/repriseref12.Compare -/
def sx22 (b : Int) (a : Int) (ob : Int) (oa : Int) (R : Ending → World → Prop) (w : World) : Prop :=
  (((decide (b < ob)) = true → R (.returned (.int .i64 (-1))) w) ∧ ((decide (b < ob)) = false → (((b == ob) = true → (((decide (a < oa)) = true → R (.returned (.int .i64 (-1))) w) ∧ ((decide (a < oa)) = false → (((b == ob)
    = true → (((a == oa) = true → R (.returned (.int .i64 0)) w) ∧ ((a == oa) = false → R (.returned (.int .i64 1)) w))) ∧ ((b == ob) = false → R (.returned (.int .i64 1)) w))))) ∧ ((b == ob) = false → (((b == ob) = true
    → (((a == oa) = true → R (.returned (.int .i64 0)) w) ∧ ((a == oa) = false → R (.returned (.int .i64 1)) w))) ∧ ((b == ob) = false → R (.returned (.int .i64 1)) w))))))
theorem sx22.ok {b : Int} {a : Int} {ob : Int} {oa : Int} {R : Ending → World → Prop} {w : World} (h : sx22 b a ob oa R w) : CallsW Try.prog 22 [.int .i64 b, .int .i64 a, .int .i64 ob, .int .i64 oa] w R :=
  callsW_of mix Try.func22 (by kernel_rfl) (by kernel_rfl) (Eq.mpr (by kernel_rfl : denFn Try.prog {} Try.f22 [.int .i64 b, .int .i64 a, .int .i64 ob, .int .i64 oa] R w = sx22 b a ob oa R w) h)

/- reprise/repriseref12.Judge -/
def sx20 (m_0 : Int) (m_1 : Int) (m_2 : Option Addr) (m_2_n m_2_c : Nat) (batch : Int) (attempt : Int) (R : Ending → World → Prop) (w : World) : Prop :=
  ∀ w1, Grew w w1 → (((decide (batch < 1)) = true → R (.returned (.int .i64 1)) w1) ∧ ((decide (batch < 1)) = false → (((decide (attempt < 1)) = true → R (.returned (.int .i64 1)) w1) ∧ ((decide (attempt < 1)) = false →
    CallsW Try.prog 22 [.int .i64 batch, .int .i64 attempt, .int .i64 m_0, .int .i64 m_1] w1 (RetR R fun u3 w2 => ∃ (n4 : Int), u3 = .int .i64 n4 ∧ (((decide (n4 < 0)) = true → R (.returned (.int .i64 130)) w2) ∧ ((decide
    (n4 < 0)) = false → (((decide (n4 > 0)) = true → R (.returned (.int .i64 131)) w2) ∧ ((decide (n4 > 0)) = false → R (.returned (.int .i64 0)) w2)))))))))
theorem sx20.ok {m_0 : Int} {m_1 : Int} {m_2 : Option Addr} {m_2_n m_2_c : Nat} {batch : Int} {attempt : Int} {R : Ending → World → Prop} {w : World} (h : sx20 m_0 m_1 m_2 m_2_n m_2_c batch attempt R w) : CallsW Try.prog 20 [.agg #[.int .i64 m_0, .int .i64 m_1, .slice m_2 m_2_n m_2_c], .int .i64 batch, .int .i64 attempt] w R :=
  callsW_of mix Try.func20 (by kernel_rfl) (by kernel_rfl) (Eq.mpr (by kernel_rfl : denFn Try.prog { locals := [3] } Try.f20 [.agg #[.int .i64 m_0, .int .i64 m_1, .slice m_2 m_2_n m_2_c], .int .i64 batch, .int .i64 attempt] R w = sx20 m_0 m_1 m_2 m_2_n m_2_c batch attempt R w) h)

/- reprise/repriseref12.Has -/
def sx29 (m_0 : Int) (m_1 : Int) (m_2 : Option Addr) (m_2_n m_2_c : Nat) (key : Int) (R : Ending → World → Prop) (w : World) : Prop :=
  ∀ w1, Grew w w1 → ∃ (I2 : Int → World → Prop) (m2 : Int → World → Nat), I2 0 w1 ∧ ∀ (n3 : Int) (w4 : World), I2 n3 w4 → (((decide (n3 < ((m_2_n : Nat) : Int))) = true → withSome m_2 (fun d5 => (0 ≤ n3 ∧ n3 < (m_2_n :
    Nat)) ∧ ∃ (n6 : Int), w4.cell? (Addr.add d5 (n3.toNat * 1)) = some (.int .u64 n6) ∧ (((n6 == key) = true → R (.returned (.bool true)) w4) ∧ ((n6 == key) = false → (I2 (IntKind.i64.wrap (n3 + 1)) w4 ∧ m2
    (IntKind.i64.wrap (n3 + 1)) w4 < m2 n3 w4))))) ∧ ((decide (n3 < ((m_2_n : Nat) : Int))) = false → R (.returned (.bool false)) w4))
theorem sx29.ok {m_0 : Int} {m_1 : Int} {m_2 : Option Addr} {m_2_n m_2_c : Nat} {key : Int} {R : Ending → World → Prop} {w : World} (h : sx29 m_0 m_1 m_2 m_2_n m_2_c key R w) : CallsW Try.prog 29 [.agg #[.int .i64 m_0, .int .i64 m_1, .slice m_2 m_2_n m_2_c], .int .u64 key] w R :=
  callsW_of mix Try.func29 (by kernel_rfl) (by kernel_rfl) (Eq.mpr (by kernel_rfl : denFn Try.prog { locals := [2], loops := [(2, { slots := [(5, .int .i64)], cells := [] })] } Try.f29 [.agg #[.int .i64 m_0, .int .i64 m_1, .slice m_2 m_2_n m_2_c], .int .u64 key] R w = sx29 m_0 m_1 m_2 m_2_n m_2_c key R w) h)

/- reprise/repriseref06.With -/
def sx42 (l : Option Addr) (l_n l_c : Nat) (k : Int) (R : Ending → World → Prop) (w : World) : Prop :=
  ∃ (J1 : Int → World → Prop), (∃ (I2 : Int → World → Prop) (m2 : Int → World → Nat), I2 0 w ∧ ∀ (n3 : Int) (w4 : World), I2 n3 w4 → (((decide (n3 < ((l_n : Nat) : Int))) = true → withSome l (fun d5 => (0 ≤ n3 ∧ n3 < (l_n :
    Nat)) ∧ ∃ (n6 : Int), w4.cell? (Addr.add d5 (n3.toNat * 1)) = some (.int .u64 n6) ∧ (((decide (n6 < k)) = true → (I2 (IntKind.i64.wrap (n3 + 1)) w4 ∧ m2 (IntKind.i64.wrap (n3 + 1)) w4 < m2 n3 w4)) ∧ ((decide (n6 < k))
    = false → J1 n3 w4)))) ∧ ((decide (n3 < ((l_n : Nat) : Int))) = false → J1 n3 w4))) ∧ ∀ (n7 : Int) (w8 : World), J1 n7 w8 → (((decide (n7 < ((l_n : Nat) : Int))) = true → withSome l (fun d9 => (0 ≤ n7 ∧ n7 < (l_n :
    Nat)) ∧ ∃ (n10 : Int), w8.cell? (Addr.add d9 (n7.toNat * 1)) = some (.int .u64 n10) ∧ (((n10 == k) = true → R (.returned (.slice l l_n l_c)) w8) ∧ ((n10 == k) = false → ∀ (b11 : Nat) (w12 : World), Alloc w8 w12 b11
    (.cells #[.int .u64 0] 38) → SemW Try.prog (Builtin.append_ #[22, 22] 22 #[.slice l l_n l_c, .slice (some ⟨b11, 0, none⟩) 1 1]) (fun u14 w13 => ∃ (a15 : Option Addr) (l15 c15 : Nat), u14 = .slice a15 l15 c15 ∧ ∀ n16 :
    Int, n16 = IntKind.i64.wrap (((l15 : Nat) : Int) - 1) → ∃ (I17 : Int → World → Prop) (m17 : Int → World → Nat), I17 n16 w13 ∧ ∀ (n18 : Int) (w19 : World), I17 n18 w19 → (((decide (n18 > n7)) = true → withSome a15 (fun
    d20 => (0 ≤ (IntKind.i64.wrap (n18 - 1)) ∧ (IntKind.i64.wrap (n18 - 1)) < (l15 : Nat)) ∧ ∃ (n21 : Int), w19.cell? (Addr.add d20 ((IntKind.i64.wrap (n18 - 1)).toNat * 1)) = some (.int .u64 n21) ∧ withSome a15 (fun d22
    => (0 ≤ n18 ∧ n18 < (l15 : Nat)) ∧ RoomAt w19 (Addr.add d22 (n18.toNat * 1)) 0 [.int .u64 n21] ∧ ∀ w23, w23 = setCells w19 (Addr.add d22 (n18.toNat * 1)) 0 [.int .u64 n21] → (I17 (IntKind.i64.wrap (n18 - 1)) w23 ∧ m17
    (IntKind.i64.wrap (n18 - 1)) w23 < m17 n18 w19)))) ∧ ((decide (n18 > n7)) = false → withSome a15 (fun d24 => (0 ≤ n7 ∧ n7 < (l15 : Nat)) ∧ RoomAt w19 (Addr.add d24 (n7.toNat * 1)) 0 [.int .u64 k] ∧ ∀ w25, w25 =
    setCells w19 (Addr.add d24 (n7.toNat * 1)) 0 [.int .u64 k] → R (.returned (.slice a15 l15 c15)) w25)))) w12)))) ∧ ((decide (n7 < ((l_n : Nat) : Int))) = false → ∀ (b26 : Nat) (w27 : World), Alloc w8 w27 b26 (.cells
    #[.int .u64 0] 38) → SemW Try.prog (Builtin.append_ #[22, 22] 22 #[.slice l l_n l_c, .slice (some ⟨b26, 0, none⟩) 1 1]) (fun u29 w28 => ∃ (a30 : Option Addr) (l30 c30 : Nat), u29 = .slice a30 l30 c30 ∧ ∀ n31 : Int,
    n31 = IntKind.i64.wrap (((l30 : Nat) : Int) - 1) → ∃ (I32 : Int → World → Prop) (m32 : Int → World → Nat), I32 n31 w28 ∧ ∀ (n33 : Int) (w34 : World), I32 n33 w34 → (((decide (n33 > n7)) = true → withSome a30 (fun d35
    => (0 ≤ (IntKind.i64.wrap (n33 - 1)) ∧ (IntKind.i64.wrap (n33 - 1)) < (l30 : Nat)) ∧ ∃ (n36 : Int), w34.cell? (Addr.add d35 ((IntKind.i64.wrap (n33 - 1)).toNat * 1)) = some (.int .u64 n36) ∧ withSome a30 (fun d37 =>
    (0 ≤ n33 ∧ n33 < (l30 : Nat)) ∧ RoomAt w34 (Addr.add d37 (n33.toNat * 1)) 0 [.int .u64 n36] ∧ ∀ w38, w38 = setCells w34 (Addr.add d37 (n33.toNat * 1)) 0 [.int .u64 n36] → (I32 (IntKind.i64.wrap (n33 - 1)) w38 ∧ m32
    (IntKind.i64.wrap (n33 - 1)) w38 < m32 n33 w34)))) ∧ ((decide (n33 > n7)) = false → withSome a30 (fun d39 => (0 ≤ n7 ∧ n7 < (l30 : Nat)) ∧ RoomAt w34 (Addr.add d39 (n7.toNat * 1)) 0 [.int .u64 k] ∧ ∀ w40, w40 =
    setCells w34 (Addr.add d39 (n7.toNat * 1)) 0 [.int .u64 k] → R (.returned (.slice a30 l30 c30)) w40)))) w27))
theorem sx42.ok {l : Option Addr} {l_n l_c : Nat} {k : Int} {R : Ending → World → Prop} {w : World} (h : sx42 l l_n l_c k R w) : CallsW Try.prog 42 [.slice l l_n l_c, .int .u64 k] w R :=
  callsW_of mix Try.func42 (by kernel_rfl) (by kernel_rfl) (Eq.mpr (by kernel_rfl : denFn Try.prog { sem := [36], named := [39], loops := [(2, { slots := [(5, .int .i64)], cells := [] }), (8, { slots := [(6, .int .i64)], cells := [] })], cuts := [(4, { slots := [(5, .int .i64)], cells := [] })] } Try.f42 [.slice l l_n l_c, .int .u64 k] R w = sx42 l l_n l_c k R w) h)

/- reprise/repriseref12.Union -/
def sx25 (a : Option Addr) (a_n a_c : Nat) (b : Option Addr) (b_n b_c : Nat) (R : Ending → World → Prop) (w : World) : Prop :=
  ∀ (b1 : Nat) (w2 : World), Alloc w w2 b1 (.cells #[] 38) → ∃ (I3 : Option Addr → Nat → Nat → Int → World → Prop) (m3 : Option Addr → Nat → Nat → Int → World → Nat), I3 (some ⟨b1, 0, none⟩) 0 0 0 w2 ∧ ∀ (a4 : Option Addr)
    (l4 c4 : Nat) (n5 : Int) (w6 : World), I3 a4 l4 c4 n5 w6 → (((decide (n5 < ((a_n : Nat) : Int))) = true → withSome a (fun d7 => (0 ≤ n5 ∧ n5 < (a_n : Nat)) ∧ ∃ (n8 : Int), w6.cell? (Addr.add d7 (n5.toNat * 1)) = some
    (.int .u64 n8) ∧ CallsW Try.prog 42 [.slice a4 l4 c4, .int .u64 n8] w6 (RetR R fun u10 w9 => ∃ (a11 : Option Addr) (l11 c11 : Nat), u10 = .slice a11 l11 c11 ∧ (I3 a11 l11 c11 (IntKind.i64.wrap (n5 + 1)) w9 ∧ m3 a11
    l11 c11 (IntKind.i64.wrap (n5 + 1)) w9 < m3 a4 l4 c4 n5 w6)))) ∧ ((decide (n5 < ((a_n : Nat) : Int))) = false → ∃ (I13 : Option Addr → Nat → Nat → Int → World → Prop) (m13 : Option Addr → Nat → Nat → Int → World →
    Nat), I13 a4 l4 c4 0 w6 ∧ ∀ (a14 : Option Addr) (l14 c14 : Nat) (n15 : Int) (w16 : World), I13 a14 l14 c14 n15 w16 → (((decide (n15 < ((b_n : Nat) : Int))) = true → withSome b (fun d17 => (0 ≤ n15 ∧ n15 < (b_n : Nat))
    ∧ ∃ (n18 : Int), w16.cell? (Addr.add d17 (n15.toNat * 1)) = some (.int .u64 n18) ∧ CallsW Try.prog 42 [.slice a14 l14 c14, .int .u64 n18] w16 (RetR R fun u20 w19 => ∃ (a21 : Option Addr) (l21 c21 : Nat), u20 = .slice
    a21 l21 c21 ∧ (I13 a21 l21 c21 (IntKind.i64.wrap (n15 + 1)) w19 ∧ m13 a21 l21 c21 (IntKind.i64.wrap (n15 + 1)) w19 < m13 a14 l14 c14 n15 w16)))) ∧ ((decide (n15 < ((b_n : Nat) : Int))) = false → R (.returned (.slice
    a14 l14 c14)) w16))))
theorem sx25.ok {a : Option Addr} {a_n a_c : Nat} {b : Option Addr} {b_n b_c : Nat} {R : Ending → World → Prop} {w : World} (h : sx25 a a_n a_c b b_n b_c R w) : CallsW Try.prog 25 [.slice a a_n a_c, .slice b b_n b_c] w R :=
  callsW_of mix Try.func25 (by kernel_rfl) (by kernel_rfl) (Eq.mpr (by kernel_rfl : denFn Try.prog { loops := [(3, { slots := [(5, .slice), (6, .int .i64)], cells := [] }), (7, { slots := [(5, .slice), (7, .int .i64)], cells := [] })] } Try.f25 [.slice a a_n a_c, .slice b b_n b_c] R w = sx25 a a_n a_c b b_n b_c R w) h)


theorem rKRising_ok {a : Option Addr} {n c : Nat} {l : List Int} {w : World} (hr : Reads w (Enc.int .u64) (a, n, c) l) (hl : l.length ≤ 9223372036854775806) : CallsW Try.prog 27 [.slice a n c] w (Rets fun v w' => v = .bool (risingK l) ∧ Grew w w') := by
  refine sx27.ok ?_
  unfold sx27
  have hn : n = l.length := hr.2.1
  subst hn
  refine ⟨fun i w' => ∃ k : Nat, i = k ∧ 1 ≤ k ∧ (∀ (j : Nat) (x y : Int), j + 1 < k → l[j]? = some x → l[j + 1]? = some y → x < y) ∧ Grew w w', fun i _ => l.length - i.toNat, ⟨1, rfl, by decide, fun j x y h => by omega, Grew.refl _⟩, ?_⟩
  rintro i w' ⟨k, rfl, hk, hlt, hg⟩
  refine ⟨fun h => ?_, fun h => ?_⟩
  · simp only [decide_eq_true_eq] at h
    have hw1 : IntKind.i64.wrap ((k : Int) - 1) = ((k - 1 : Nat) : Int) := by rw [IntKind.wrap_i64]; omega
    have hw2 : IntKind.i64.wrap ((k : Int) + 1) = ((k + 1 : Nat) : Int) := by rw [IntKind.wrap_i64]; omega
    obtain ⟨d, y, rfl, hy, hcy⟩ := (hr.grew hg).at0 (k := k) (by omega)
    obtain ⟨d', x, hd', hx, hcx⟩ := (hr.grew hg).at0 (k := k - 1) (by omega)
    cases hd'
    rw [hw1, hw2]
    refine ⟨by omega, y, by simpa [Enc.int, CellsAt, Addr.add_zero'] using hcy, by omega, x, by simpa [Enc.int, CellsAt, Addr.add_zero'] using hcx, fun w8 hg8 => ⟨fun hle => ?_, fun hle => ?_⟩⟩
    · simp only [decide_eq_true_eq] at hle
      have : risingK l = false := by
        apply Bool.eq_false_iff.2
        intro hr'
        have := (risingK_iff l).1 hr' (k - 1) x y hx (by rw [show k - 1 + 1 = k from by omega]; exact hy)
        omega
      exact ⟨_, rfl, by rw [this], hg.trans hg8⟩
    · simp only [decide_eq_false_iff_not] at hle
      refine ⟨⟨k + 1, rfl, by omega, fun j u v hj hu hv => ?_, hg.trans hg8⟩, by show l.length - (((k + 1 : Nat) : Int)).toNat < l.length - ((k : Int)).toNat; omega⟩
      by_cases hjk : j + 1 < k
      · exact hlt j u v hjk hu hv
      · have : j = k - 1 := by omega
        subst this
        rw [show k - 1 + 1 = k from by omega] at hv
        rw [hx] at hu; rw [hy] at hv
        cases hu; cases hv; omega
  · simp only [decide_eq_false_iff_not] at h
    have : risingK l = true := (risingK_iff l).2 fun i x y hx hy => by
      have : i + 1 < l.length := (List.getElem?_eq_some_iff.1 hy).1
      exact hlt i x y (by omega) hx hy
    exact ⟨_, rfl, by rw [this], hg⟩

theorem rSound_ok {m : MarkV} {a : Option Addr} {n c : Nat} {w : World} (hr : Reads w (Enc.int .u64) (a, n, c) m.keys) (hl : m.keys.length ≤ 9223372036854775806) : CallsW Try.prog 15 [mval m a n c] w (Rets fun v w' => v = .bool (soundM m) ∧ Grew w w') := by
  refine sx15.ok ?_
  unfold sx15
  intro w1 hg1
  have hn : n = m.keys.length := hr.2.1
  refine ⟨fun h => ⟨_, rfl, ?_, hg1⟩, fun h1 => ⟨fun h => ⟨_, rfl, ?_, hg1⟩, fun h2 => ⟨fun h => ⟨_, rfl, ?_, hg1⟩, fun h3 => ⟨fun h => ⟨_, rfl, ?_, hg1⟩, fun h4 => ⟨fun h => ⟨_, rfl, ?_, hg1⟩, fun h5 => ?_⟩⟩⟩⟩⟩
  all_goals simp only [decide_eq_true_eq, decide_eq_false_iff_not] at *
  · have : ¬ 0 ≤ m.batch := by omega
    simp [soundM, withinB, this]
  · have : ¬ m.batch ≤ 1099511627776 := by omega
    simp [soundM, withinB, this]
  · have : ¬ 0 ≤ m.attempt := by omega
    simp [soundM, withinB, this]
  · have : ¬ m.attempt ≤ 1099511627776 := by omega
    simp [soundM, withinB, this]
  · have : ¬ m.keys.length ≤ 64 := by omega
    simp [soundM, this]
  have k1 : withinB m.batch = true := by simp [withinB]; omega
  have k2 : withinB m.attempt = true := by simp [withinB]; omega
  have k3 : m.keys.length ≤ 64 := by omega
  refine (rKRising_ok (hr.grew hg1) hl).use fun v w2 ⟨hv, hg2⟩ => ?_
  subst hv
  have hg2 := hg1.trans hg2
  refine ⟨_, rfl, fun h => ?_, fun h => ?_⟩
  · have h' : risingK m.keys = false := by simpa using h
    exact ⟨_, rfl, by simp [soundM, h'], hg2⟩
  have k4 : risingK m.keys = true := by simpa using h
  have hs : soundM m = (if m.batch = 0 ∧ m.attempt = 0 then decide (m.keys.length = 0) else decide (m.batch ≠ 0) && decide (m.attempt ≠ 0)) := by simp [soundM, k1, k2, k3, k4]
  have hz : (((n : Nat) : Int) == 0) = decide (m.keys.length = 0) := by rw [hn]; by_cases hz : m.keys.length = 0 <;> simp [hz]
  refine ⟨fun hb => ⟨fun _ => ⟨fun ha => ⟨_, rfl, ?_, hg2⟩, fun ha => ⟨_, rfl, ?_, hg2⟩⟩, fun hb' => ⟨_, rfl, ?_, hg2⟩⟩, fun hb => ⟨fun ha => ⟨fun hb' => ⟨fun _ => ⟨_, rfl, ?_, hg2⟩, fun _ => ⟨_, rfl, ?_, hg2⟩⟩, fun _ => ⟨_, rfl, ?_, hg2⟩⟩, fun ha => ⟨_, rfl, ?_, hg2⟩⟩⟩
  all_goals simp only [beq_iff_eq, beq_eq_false_iff_ne, ne_eq] at *
  · rw [hs, if_pos ⟨hb, ha⟩]; rw [hz]
  · rw [hs, if_neg (fun hh => ha hh.2)]; simp [hb]
  · exact absurd hb hb'
  · exact absurd hb' hb
  · exact absurd hb' hb
  · rw [hs, if_neg (fun hh => hb hh.1)]; simp [ha]
  · rw [hs, if_neg (fun hh => hb hh.1)]; simp [ha, hb]

theorem rMEncode_ok {m : MarkV} {a : Option Addr} {n c : Nat} {w : World} (hr : Reads w (Enc.int .u64) (a, n, c) m.keys) (hf : Keys64 m.keys) (hl : m.keys.length ≤ 9223372036854775806) : CallsW Try.prog 13 [mval m a n c] w (Rets (BytesErr w (encodeM m))) := by
  refine sx13.ok ?_
  unfold sx13
  intro w1 hg1
  have hn : n = m.keys.length := hr.2.1
  subst hn
  refine (rSound_ok (hr.grew hg1) hl).use fun v w2 ⟨hv, hg2⟩ => ?_
  subst hv
  refine ⟨_, rfl, fun h => ?_, fun h => ?_⟩
  · have h' : soundM m = false := by simpa using h
    exact ⟨_, rfl, by rw [encodeM, if_neg (by rw [h']; simp)]; exact .no (hg1.trans hg2) _⟩
  have hs : soundM m = true := by simpa using h
  have ho := soundM_ok hs hf
  have hb0 := ho.1.1; have ha0 := ho.2.1.1; have hk64 := ho.2.2.1
  have eb : IntKind.u64.wrap m.batch = m.batch := by rw [IntKind.wrap_u64]; simp only [u64m] at hb0; omega
  have ea : IntKind.u64.wrap m.attempt = m.attempt := by rw [IntKind.wrap_u64]; simp only [u64m] at ha0; omega
  have el : IntKind.u64.wrap (m.keys.length : Int) = m.keys.length := by rw [IntKind.wrap_u64]; omega
  rw [eb, ea]
  have hg2' := hg1.trans hg2
  have h1 := putB_len10 hb0.2; have h2 := putB_len10 ha0.2
  have h3 := putB_len10 (x := (m.keys.length : Int)) (by simp only [u64m]; omega)
  refine (rPut_ok hb0.1 hb0.2).use fun v w6 ⟨a8, l8, c8, hv, ho6, hg6⟩ => ?_
  subst hv
  refine ⟨_, _, _, rfl, (rPut_ok ha0.1 ha0.2).use fun v w10 ⟨a12, l12, c12, hv, ho10, hg10⟩ => ?_⟩
  subst hv
  refine ⟨_, _, _, rfl, push_ok (w0 := w) (ho6.base hg2'.size) (hg2'.trans hg6) ho10 hg10 (by omega) ?_⟩
  intro a16 l16 c16 w14 ho14 hg14
  refine ⟨_, _, _, rfl, ?_⟩
  rintro n17 rfl
  rw [el]
  refine (rPut_ok (by omega) (by simp only [u64m]; omega)).use fun v w18 ⟨a20, l20, c20, hv, ho18, hg18⟩ => ?_
  subst hv
  refine ⟨_, _, _, rfl, push_ok ho14 hg14 ho18 hg18 (by simp only [List.length_append]; omega) ?_⟩
  intro a24 l24 c24 w22 ho22 hg22
  obtain ⟨H, hH⟩ : ∃ H, H = putB m.batch ++ putB m.attempt ++ putB (m.keys.length : Int) := ⟨_, rfl⟩
  have hHl : H.length ≤ 30 := by rw [hH]; simp only [List.length_append]; omega
  rw [← hH] at ho22
  refine ⟨_, _, _, rfl, fun a27 l27 c27 i w' => ∃ k : Nat, i = k ∧ k ≤ m.keys.length ∧ Own w' w.heap.size 5 (Enc.int .u8) a27 l27 c27 (H ++ (m.keys.take k).flatMap putB) ∧ Grew w w', fun _ _ _ i _ => m.keys.length - i.toNat, ⟨0, rfl, Nat.zero_le _, by simpa using ho22, hg22⟩, ?_⟩
  rintro a27 l27 c27 i w29 ⟨k, rfl, hk, ho29, hg29⟩
  refine ⟨fun hlt => ?_, fun hge => ?_⟩
  · simp only [decide_eq_true_eq] at hlt
    obtain ⟨d, x, rfl, hx, hcx⟩ := (hr.grew hg29).at0 (k := k) (by omega)
    have hw1 : IntKind.i64.wrap ((k : Int) + 1) = ((k + 1 : Nat) : Int) := by rw [IntKind.wrap_i64]; omega
    rw [hw1]
    have hxf := hf x (List.mem_of_getElem? hx)
    refine ⟨by omega, x, by simpa [Enc.int, CellsAt, Addr.add_zero'] using hcx, (rPut_ok hxf.1 hxf.2).use fun v w32 ⟨a34, l34, c34, hv, ho32, hg32⟩ => ?_⟩
    subst hv
    have h4 := flat_putB_len (m.keys.take k) fun z hz => hf z (List.mem_of_mem_take hz)
    have h5 := putB_len10 hxf.2
    rw [List.length_take] at h4
    refine ⟨_, _, _, rfl, push_ok ho29 hg29 ho32 hg32 (by simp only [List.length_append]; omega) ?_⟩
    intro a38 l38 c38 w36 ho36 hg36
    refine ⟨_, _, _, rfl, ⟨k + 1, rfl, by omega, ?_, hg36⟩, by show m.keys.length - (((k + 1 : Nat) : Int)).toNat < m.keys.length - ((k : Int)).toNat; omega⟩
    rw [flat_snoc _ _ _ hx, ← List.append_assoc]; exact ho36
  · simp only [decide_eq_false_iff_not] at hge
    have hkk : k = m.keys.length := by omega
    subst hkk
    rw [List.take_length] at ho29
    refine ⟨_, rfl, ?_⟩
    rw [encodeM, if_pos hs]
    refine ⟨_, _, _, rfl, ?_, hg29⟩
    show Own _ _ _ _ _ _ _ (bytesM m)
    have : bytesM m = H ++ m.keys.flatMap putB := by rw [hH, bytesM]; simp
    rw [this]; exact ho29

theorem rMCompare_ok {b a ob oa : Int} {w : World} : CallsW Try.prog 22 [.int .i64 b, .int .i64 a, .int .i64 ob, .int .i64 oa] w (Rets fun v w' => v = .int .i64 (cmpM b a ob oa) ∧ Grew w w') := by
  refine sx22.ok ?_
  unfold sx22
  refine ⟨fun h => ⟨_, rfl, ?_, Grew.refl _⟩, fun h => ⟨fun h2 => ⟨fun h3 => ⟨_, rfl, ?_, Grew.refl _⟩, fun h3 => ⟨fun h4 => ⟨fun h5 => ⟨_, rfl, ?_, Grew.refl _⟩, fun h5 => ⟨_, rfl, ?_, Grew.refl _⟩⟩, fun h4 => ⟨_, rfl, ?_, Grew.refl _⟩⟩⟩, fun h2 => ⟨fun h4 => ⟨fun h5 => ⟨_, rfl, ?_, Grew.refl _⟩, fun h5 => ⟨_, rfl, ?_, Grew.refl _⟩⟩, fun h4 => ⟨_, rfl, ?_, Grew.refl _⟩⟩⟩⟩
  all_goals
    simp only [decide_eq_true_eq, decide_eq_false_iff_not, beq_iff_eq, beq_eq_false_iff_ne, ne_eq] at *
    unfold cmpM cmpI
    repeat' split
    all_goals first | rfl | (congr 1; omega) | omega

theorem rJudge_ok {m : MarkV} {s : Option Addr} {n c : Nat} {b a : Int} {w : World} : CallsW Try.prog 20 [mval m s n c, .int .i64 b, .int .i64 a] w (Rets fun v w' => v = .int .i64 (judgeM m b a) ∧ Grew w w') := by
  refine sx20.ok ?_
  unfold sx20
  intro w1 hg1
  refine ⟨fun h => ?_, fun h => ⟨fun h2 => ?_, fun h2 => ?_⟩⟩
  · have h' : b < 1 := by simpa using h
    exact ⟨_, rfl, by rw [judgeM, if_pos (.inl h')], hg1⟩
  · have h' : a < 1 := by simpa using h2
    exact ⟨_, rfl, by rw [judgeM, if_pos (.inr h')], hg1⟩
  have hb : ¬ b < 1 := by simpa using h
  have ha : ¬ a < 1 := by simpa using h2
  refine rMCompare_ok.use fun v w2 ⟨hv, hg2⟩ => ?_
  subst hv
  have hrange : cmpM b a m.batch m.attempt = -1 ∨ cmpM b a m.batch m.attempt = 0 ∨ cmpM b a m.batch m.attempt = 1 := by
    unfold cmpM; split <;> exact cmpI_range _ _
  have hjd : judgeM m b a = if cmpM b a m.batch m.attempt = -1 then 130 else if cmpM b a m.batch m.attempt = 1 then 131 else 0 := by rw [judgeM, if_neg (fun hh => hh.elim hb ha)]
  refine ⟨_, rfl, fun h3 => ⟨_, rfl, ?_, hg1.trans hg2⟩, fun h3 => ⟨fun h4 => ⟨_, rfl, ?_, hg1.trans hg2⟩, fun h4 => ⟨_, rfl, ?_, hg1.trans hg2⟩⟩⟩
  all_goals simp only [decide_eq_true_eq, decide_eq_false_iff_not] at *
  · rw [hjd, if_pos (by omega)]
  · rw [hjd, if_neg (by omega), if_pos (by omega)]
  · rw [hjd, if_neg (by omega), if_neg (by omega)]

theorem rHas_ok {m : MarkV} {s : Option Addr} {n c : Nat} {key : Int} {w : World} (hr : Reads w (Enc.int .u64) (s, n, c) m.keys) (hl : m.keys.length ≤ 9223372036854775806) : CallsW Try.prog 29 [mval m s n c, .int .u64 key] w (Rets fun v w' => v = .bool (decide (key ∈ m.keys)) ∧ Grew w w') := by
  refine sx29.ok ?_
  unfold sx29
  intro w1 hg1
  have hn : n = m.keys.length := hr.2.1
  subst hn
  refine ⟨fun i w' => ∃ k : Nat, i = k ∧ k ≤ m.keys.length ∧ (∀ y ∈ m.keys.take k, y ≠ key) ∧ w' = w1, fun i _ => m.keys.length - i.toNat, ⟨0, rfl, Nat.zero_le _, by simp, rfl⟩, ?_⟩
  rintro i w' ⟨k, rfl, hk, hno, rfl⟩
  refine ⟨fun hlt => ?_, fun hge => ?_⟩
  · simp only [decide_eq_true_eq] at hlt
    obtain ⟨d, y, rfl, hy, hc⟩ := (hr.grew hg1).at0 (k := k) (by omega)
    have hw : IntKind.i64.wrap ((k : Int) + 1) = ((k + 1 : Nat) : Int) := by rw [IntKind.wrap_i64]; omega
    rw [hw]
    refine ⟨by omega, y, by simpa [Enc.int, CellsAt, Addr.add_zero'] using hc, fun he => ?_, fun hne => ?_⟩
    · have : y = key := by simpa using he
      subst this
      exact ⟨_, rfl, by simp [List.mem_of_getElem? hy], hg1⟩
    · have hne' : y ≠ key := by simpa using hne
      refine ⟨⟨k + 1, rfl, by omega, fun z hz => ?_, rfl⟩, by show m.keys.length - (((k + 1 : Nat) : Int)).toNat < m.keys.length - ((k : Int)).toNat; omega⟩
      rw [take_snoc hy] at hz
      rcases List.mem_append.1 hz with hz | hz
      · exact hno z hz
      · simp only [List.mem_singleton] at hz; subst hz; exact hne'
  · simp only [decide_eq_false_iff_not] at hge
    have hkk : k = m.keys.length := by omega
    subst hkk
    rw [List.take_length] at hno
    exact ⟨_, rfl, by simp [show key ∉ m.keys from fun hm => hno key hm rfl], hg1⟩

set_option maxHeartbeats 1000000 in
theorem With_ok {B : Nat} {a : Option Addr} {n c : Nat} {l : List Int} {k : Int} {w : World} (ho : Own w B 38 (Enc.int .u64) a n c l) (hB : B ≤ w.heap.size) (hl : l.length < 1099511627776) :
    CallsW Try.prog 42 [.slice a n c, .int .u64 k] w (Rets (Onto w B 38 (Enc.int .u64) a (withL l k))) := by
  refine sx42.ok ?_
  unfold sx42
  have hn : n = l.length := ho.len
  subst hn
  obtain ⟨t, ht⟩ : ∃ t, t = (l.takeWhile fun x => decide (x < k)).length := ⟨_, rfl⟩
  have htl : t ≤ l.length := by rw [ht]; exact (List.takeWhile_sublist _).length_le
  refine ⟨fun i w' => i = (t : Nat) ∧ w' = w, ⟨fun i w' => ∃ q : Nat, i = q ∧ q ≤ l.length ∧ (∀ (j : Nat) (x : Int), j < q → l[j]? = some x → x < k) ∧ w' = w, fun i _ => l.length - i.toNat, ⟨0, rfl, Nat.zero_le _, fun j x h => by omega, rfl⟩, ?_⟩, ?_⟩
  · rintro i w4 ⟨q, rfl, hq, hlt, rfl⟩
    have hend : (∀ x, l[q]? = some x → ¬ x < k) → t = q := fun hx => by
      rw [ht]; exact takeWhile_len _ l q hq (fun i x hi hx => by simpa using hlt i x hi hx) (fun x h => by simpa using hx x h)
    refine ⟨fun h => ?_, fun h => ?_⟩
    · simp only [decide_eq_true_eq] at h
      obtain ⟨d, x, rfl, hx, hcx⟩ := ho.reads.at0 (k := q) (by omega)
      have hw : IntKind.i64.wrap ((q : Int) + 1) = ((q + 1 : Nat) : Int) := by rw [IntKind.wrap_i64]; omega
      rw [hw]
      refine ⟨by omega, x, by simpa [Enc.int, CellsAt, Addr.add_zero'] using hcx, fun hp => ?_, fun hp => ?_⟩
      · simp only [decide_eq_true_eq] at hp
        refine ⟨⟨q + 1, rfl, by omega, fun j y hj hy => ?_, rfl⟩, by show l.length - (((q + 1 : Nat) : Int)).toNat < l.length - ((q : Int)).toNat; omega⟩
        by_cases hjq : j < q
        · exact hlt j y hjq hy
        · have : j = q := by omega
          subst this; rw [hx] at hy; cases hy; exact hp
      · simp only [decide_eq_false_iff_not] at hp
        exact ⟨by rw [hend fun y hy => by rw [hx] at hy; cases hy; exact hp], rfl⟩
    · simp only [decide_eq_false_iff_not] at h
      exact ⟨by rw [hend fun y hy => by rw [List.getElem?_eq_none (by omega)] at hy; cases hy], rfl⟩
  rintro i w8 ⟨rfl, rfl⟩
  have hsame : l[t]? = some k → withL l k = l := fun h => by rw [withL, ← ht, if_pos h]
  have hnew : l[t]? ≠ some k → withL l k = l.take t ++ k :: l.drop t := fun h => by rw [withL, ← ht, if_neg h]
  refine ⟨fun hlt => ?_, fun hge => ?_⟩
  · simp only [decide_eq_true_eq] at hlt
    obtain ⟨d, x, hd, hx, hcx⟩ := ho.reads.at0 (k := t) (by omega)
    subst hd
    refine ⟨by omega, x, by simpa [Enc.int, CellsAt, Addr.add_zero'] using hcx, fun he => ?_, fun hne => ?_⟩
    · have : x = k := by simpa using he
      subst this
      exact ⟨_, rfl, _, _, _, rfl, by rw [hsame hx]; exact ho, Upd.refl _ _, fun b hb => .inl hb⟩
    have hne' : l[t]? ≠ some k := by rw [hx]; simpa using hne
    replace hnew := hnew hne'
    obtain ⟨a, ha⟩ : ∃ a, a = some d := ⟨_, rfl⟩
    rw [← ha] at ho ⊢
    clear ha hcx
    intro b11 w12 hal
    refine append_new (l2 := [0]) en_U ho hal rfl rfl hB (by simp only [maxLen, List.length_cons, List.length_nil]; omega) (by simp only [List.length_cons, List.length_nil]; omega) ?_
    rintro v w13 ⟨a15, l15, c15, rfl, ho13, hu13, hb13⟩
    have hl15 := ho13.len
    simp only [List.length_append, List.length_cons, List.length_nil] at hl15
    refine ⟨_, _, _, rfl, ?_⟩
    rintro n16 rfl
    have e1 : IntKind.i64.wrap ((l15 : Int) - 1) = (l.length : Int) := by rw [IntKind.wrap_i64]; omega
    rw [e1]
    refine ⟨fun i w' => ∃ q : Nat, i = q ∧ t ≤ q ∧ q ≤ l.length ∧ Own w' B 38 (Enc.int .u64) a15 l15 c15 ((l ++ [0]).take (q + 1) ++ l.drop q) ∧ Upd (Blk a15) w13 w', fun i _ => i.toNat, ⟨l.length, rfl, htl, Nat.le_refl _, by rw [List.drop_length, List.append_nil, List.take_of_length_le (by simp)]; exact ho13, Upd.refl _ _⟩, ?_⟩
    rintro i w19 ⟨q, rfl, htq, hql, ho19, hu19⟩
    refine ⟨fun hgt => ?_, fun hle => ?_⟩
    · simp only [decide_eq_true_eq] at hgt
      have e2 : IntKind.i64.wrap ((q : Int) - 1) = ((q - 1 : Nat) : Int) := by rw [IntKind.wrap_i64]; omega
      rw [e2]
      obtain ⟨d, y, hd, hy, hcy⟩ := ho19.reads.at0 (k := q - 1) (by omega)
      obtain ⟨d', hd', hroom, hset, hus⟩ := ho19.set (i := q) (by simp only [List.length_append, List.length_take, List.length_drop, List.length_cons, List.length_nil]; omega) y
      rw [hd] at hd'; cases hd'
      subst hd
      have hyl : l[q - 1]? = some y := by
        rw [List.getElem?_append_left (by simp only [List.length_take, List.length_append, List.length_cons, List.length_nil]; omega), List.getElem?_take, if_pos (by omega), List.getElem?_append_left (by omega)] at hy
        exact hy
      refine ⟨by omega, y, by simpa [Enc.int, CellsAt, Addr.add_zero'] using hcy, by omega, by simpa [Enc.int] using hroom, ?_⟩
      rintro w23 rfl
      refine ⟨⟨q - 1, rfl, by omega, by omega, ?_, by simpa [Enc.int] using hu19.trans hus⟩, by show (((q - 1 : Nat) : Int)).toNat < ((q : Int)).toNat; omega⟩
      have hs : ((l ++ [0]).take (q + 1) ++ l.drop q).set q y = (l ++ [0]).take (q - 1 + 1) ++ l.drop (q - 1) := by
        have h0 : (l ++ [0])[q]? = some ((l ++ [0])[q]'(by simp only [List.length_append, List.length_cons, List.length_nil]; omega)) := List.getElem?_eq_getElem _
        rw [take_snoc h0, List.append_assoc, List.set_append_right _ _ (by simp only [List.length_take]; omega)]
        have h2 : q - ((l ++ [0]).take q).length = 0 := by simp only [List.length_take, List.length_append, List.length_cons, List.length_nil]; omega
        rw [h2, show q - 1 + 1 = q from by omega, drop_cons hyl, show q - 1 + 1 = q from by omega]
        rfl
      rw [← hs]
      simpa [Enc.int] using hset
    · simp only [decide_eq_false_iff_not] at hle
      have hqt : q = t := by omega
      subst hqt
      obtain ⟨d', hd', hroom, hset, hus⟩ := ho19.set (i := q) (by simp only [List.length_append, List.length_take, List.length_drop, List.length_cons, List.length_nil]; omega) k
      subst hd'
      refine ⟨by omega, by simpa [Enc.int] using hroom, ?_⟩
      rintro w25 rfl
      have hs : ((l ++ [0]).take (q + 1) ++ l.drop q).set q k = l.take q ++ k :: l.drop q := by
        have h0 : (l ++ [0])[q]? = some ((l ++ [0])[q]'(by simp only [List.length_append, List.length_cons, List.length_nil]; omega)) := List.getElem?_eq_getElem _
        rw [take_snoc h0, List.append_assoc, List.set_append_right _ _ (by simp only [List.length_take]; omega)]
        have h2 : q - ((l ++ [0]).take q).length = 0 := by simp only [List.length_take, List.length_append, List.length_cons, List.length_nil]; omega
        rw [h2, List.take_append_of_le_length htl]
        rfl
      refine ⟨_, rfl, _, _, _, rfl, ?_, ?_, hb13⟩
      · rw [hnew, ← hs]; simpa [Enc.int] using hset
      · have hsz := hu13.size
        refine hu13.then (hu19.trans ?_) fun x hx h => (hb13 x h).elim id fun h' => by omega
        simpa [Enc.int] using hus
  · simp only [decide_eq_false_iff_not] at hge
    have hne' : l[t]? ≠ some k := by rw [List.getElem?_eq_none (by omega)]; simp
    replace hnew := hnew hne'
    intro b11 w12 hal
    refine append_new (l2 := [0]) en_U ho hal rfl rfl hB (by simp only [maxLen, List.length_cons, List.length_nil]; omega) (by simp only [List.length_cons, List.length_nil]; omega) ?_
    rintro v w13 ⟨a15, l15, c15, rfl, ho13, hu13, hb13⟩
    have hl15 := ho13.len
    simp only [List.length_append, List.length_cons, List.length_nil] at hl15
    refine ⟨_, _, _, rfl, ?_⟩
    rintro n16 rfl
    have e1 : IntKind.i64.wrap ((l15 : Int) - 1) = (l.length : Int) := by rw [IntKind.wrap_i64]; omega
    rw [e1]
    refine ⟨fun i w' => ∃ q : Nat, i = q ∧ t ≤ q ∧ q ≤ l.length ∧ Own w' B 38 (Enc.int .u64) a15 l15 c15 ((l ++ [0]).take (q + 1) ++ l.drop q) ∧ Upd (Blk a15) w13 w', fun i _ => i.toNat, ⟨l.length, rfl, htl, Nat.le_refl _, by rw [List.drop_length, List.append_nil, List.take_of_length_le (by simp)]; exact ho13, Upd.refl _ _⟩, ?_⟩
    rintro i w19 ⟨q, rfl, htq, hql, ho19, hu19⟩
    refine ⟨fun hgt => ?_, fun hle => ?_⟩
    · simp only [decide_eq_true_eq] at hgt
      have e2 : IntKind.i64.wrap ((q : Int) - 1) = ((q - 1 : Nat) : Int) := by rw [IntKind.wrap_i64]; omega
      rw [e2]
      obtain ⟨d, y, hd, hy, hcy⟩ := ho19.reads.at0 (k := q - 1) (by omega)
      obtain ⟨d', hd', hroom, hset, hus⟩ := ho19.set (i := q) (by simp only [List.length_append, List.length_take, List.length_drop, List.length_cons, List.length_nil]; omega) y
      rw [hd] at hd'; cases hd'
      subst hd
      have hyl : l[q - 1]? = some y := by
        rw [List.getElem?_append_left (by simp only [List.length_take, List.length_append, List.length_cons, List.length_nil]; omega), List.getElem?_take, if_pos (by omega), List.getElem?_append_left (by omega)] at hy
        exact hy
      refine ⟨by omega, y, by simpa [Enc.int, CellsAt, Addr.add_zero'] using hcy, by omega, by simpa [Enc.int] using hroom, ?_⟩
      rintro w23 rfl
      refine ⟨⟨q - 1, rfl, by omega, by omega, ?_, by simpa [Enc.int] using hu19.trans hus⟩, by show (((q - 1 : Nat) : Int)).toNat < ((q : Int)).toNat; omega⟩
      have hs : ((l ++ [0]).take (q + 1) ++ l.drop q).set q y = (l ++ [0]).take (q - 1 + 1) ++ l.drop (q - 1) := by
        have h0 : (l ++ [0])[q]? = some ((l ++ [0])[q]'(by simp only [List.length_append, List.length_cons, List.length_nil]; omega)) := List.getElem?_eq_getElem _
        rw [take_snoc h0, List.append_assoc, List.set_append_right _ _ (by simp only [List.length_take]; omega)]
        have h2 : q - ((l ++ [0]).take q).length = 0 := by simp only [List.length_take, List.length_append, List.length_cons, List.length_nil]; omega
        rw [h2, show q - 1 + 1 = q from by omega, drop_cons hyl, show q - 1 + 1 = q from by omega]
        rfl
      rw [← hs]
      simpa [Enc.int] using hset
    · simp only [decide_eq_false_iff_not] at hle
      have hqt : q = t := by omega
      subst hqt
      obtain ⟨d', hd', hroom, hset, hus⟩ := ho19.set (i := q) (by simp only [List.length_append, List.length_take, List.length_drop, List.length_cons, List.length_nil]; omega) k
      subst hd'
      refine ⟨by omega, by simpa [Enc.int] using hroom, ?_⟩
      rintro w25 rfl
      have hs : ((l ++ [0]).take (q + 1) ++ l.drop q).set q k = l.take q ++ k :: l.drop q := by
        have h0 : (l ++ [0])[q]? = some ((l ++ [0])[q]'(by simp only [List.length_append, List.length_cons, List.length_nil]; omega)) := List.getElem?_eq_getElem _
        rw [take_snoc h0, List.append_assoc, List.set_append_right _ _ (by simp only [List.length_take]; omega)]
        have h2 : q - ((l ++ [0]).take q).length = 0 := by simp only [List.length_take, List.length_append, List.length_cons, List.length_nil]; omega
        rw [h2, List.take_append_of_le_length htl]
        rfl
      refine ⟨_, rfl, _, _, _, rfl, ?_, ?_, hb13⟩
      · rw [hnew, ← hs]; simpa [Enc.int] using hset
      · have hsz := hu13.size
        refine hu13.then (hu19.trans ?_) fun x hx h => (hb13 x h).elim id fun h' => by omega
        simpa [Enc.int] using hus

theorem rUnion_ok {a b : Option Addr} {n m c e : Nat} {l r : List Int} {w : World} (hl : Reads w (Enc.int .u64) (a, n, c) l) (hr : Reads w (Enc.int .u64) (b, m, e) r) (hs : l.length + r.length ≤ 1099511627775) :
    CallsW Try.prog 25 [.slice a n c, .slice b m e] w (Rets (Fresh w 38 (Enc.int .u64) (unionL (l ++ r)))) := by
  refine sx25.ok ?_
  unfold sx25
  intro b1 w2 hal
  have hn : n = l.length := hl.2.1
  have hm : m = r.length := hr.2.1
  subst hn; subst hm
  have hlen : ∀ (t acc : List Int), (t.foldl withL acc).length ≤ acc.length + t.length := by
    intro t
    induction t with
    | nil => intro acc; simp
    | cons x t ih => intro acc; have := ih (withL acc x); have := withL_len acc x; simp only [List.foldl_cons, List.length_cons]; omega
  have hstep : ∀ (t : List Int) (acc : List Int) (k : Nat) (x : Int), t[k]? = some x → (t.take (k + 1)).foldl withL acc = withL ((t.take k).foldl withL acc) x := fun t acc k x h => by rw [take_snoc h, List.foldl_append]; rfl
  refine ⟨fun a4 l4 c4 i w' => ∃ k : Nat, i = k ∧ k ≤ l.length ∧ Own w' w.heap.size 38 (Enc.int .u64) a4 l4 c4 ((l.take k).foldl withL []) ∧ Grew w w', fun _ _ _ i _ => l.length - i.toNat, ⟨0, rfl, Nat.zero_le _, by simpa using (Own.alloc (E := Enc.int .u64) (l := []) hal (Nat.le_refl _) rfl (by decide)), hal.grew⟩, ?_⟩
  rintro a4 l4 c4 i w6 ⟨k, rfl, hk, ho6, hg6⟩
  refine ⟨fun hlt => ?_, fun hge => ?_⟩
  · simp only [decide_eq_true_eq] at hlt
    obtain ⟨d, x, rfl, hx, hcx⟩ := (hl.grew hg6).at0 (k := k) (by omega)
    have hw : IntKind.i64.wrap ((k : Int) + 1) = ((k + 1 : Nat) : Int) := by rw [IntKind.wrap_i64]; omega
    rw [hw]
    have hb := hlen (l.take k) []
    simp only [List.length_nil, List.length_take] at hb
    refine ⟨by omega, x, by simpa [Enc.int, CellsAt, Addr.add_zero'] using hcx, (With_ok (k := x) ho6 hg6.size (by omega)).use fun v w9 ⟨a11, l11, c11, hv, ho9, hu9, hb9⟩ => ?_⟩
    subst hv
    exact ⟨_, _, _, rfl, ⟨k + 1, rfl, by omega, by rw [hstep _ _ _ _ hx]; exact ho9, hg6.then_own hu9 fun z hz => (ho6.blk hz).1⟩, by show l.length - (((k + 1 : Nat) : Int)).toNat < l.length - ((k : Int)).toNat; omega⟩
  · simp only [decide_eq_false_iff_not] at hge
    have hkk : k = l.length := by omega
    subst hkk
    rw [List.take_length] at ho6
    refine ⟨fun a4 l4 c4 i w' => ∃ k : Nat, i = k ∧ k ≤ r.length ∧ Own w' w.heap.size 38 (Enc.int .u64) a4 l4 c4 ((r.take k).foldl withL (l.foldl withL [])) ∧ Grew w w', fun _ _ _ i _ => r.length - i.toNat, ⟨0, rfl, Nat.zero_le _, by simpa using ho6, hg6⟩, ?_⟩
    rintro a14 l14 c14 i w16 ⟨k, rfl, hk, ho16, hg16⟩
    refine ⟨fun hlt => ?_, fun hge => ?_⟩
    · simp only [decide_eq_true_eq] at hlt
      obtain ⟨d, x, rfl, hx, hcx⟩ := (hr.grew hg16).at0 (k := k) (by omega)
      have hw : IntKind.i64.wrap ((k : Int) + 1) = ((k + 1 : Nat) : Int) := by rw [IntKind.wrap_i64]; omega
      rw [hw]
      have hb := hlen (r.take k) (l.foldl withL [])
      have hb2 := hlen l []
      simp only [List.length_nil, List.length_take] at hb hb2
      refine ⟨by omega, x, by simpa [Enc.int, CellsAt, Addr.add_zero'] using hcx, (With_ok (k := x) ho16 hg16.size (by omega)).use fun v w9 ⟨a11, l11, c11, hv, ho9, hu9, hb9⟩ => ?_⟩
      subst hv
      exact ⟨_, _, _, rfl, ⟨k + 1, rfl, by omega, by rw [hstep _ _ _ _ hx]; exact ho9, hg16.then_own hu9 fun z hz => (ho16.blk hz).1⟩, by show r.length - (((k + 1 : Nat) : Int)).toNat < r.length - ((k : Int)).toNat; omega⟩
    · simp only [decide_eq_false_iff_not] at hge
      have hkk : k = r.length := by omega
      subst hkk
      rw [List.take_length, ← List.foldl_append, foldWith_union] at ho16
      exact ⟨_, rfl, _, _, _, rfl, ho16, hg16⟩
end Go.Proofs.Yteakjjbajjkloaa
