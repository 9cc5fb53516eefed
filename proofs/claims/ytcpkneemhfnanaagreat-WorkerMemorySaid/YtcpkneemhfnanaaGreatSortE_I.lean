/- What slices.Sort hands back. Conditions: none. -/
import Derived.Test.YtcpkneemhfnanaaGreatProg
import Derived.Test.YtcpkneemhfnanaaGreatSortD_I
import Derived.Test.YtcpkneemhfnanaaGreatRand
namespace Go.Proofs.YtcpkneemhfnanaaGreat
open Go.Sx
set_option maxRecDepth 100000
set_option linter.unusedVariables false
set_option linter.unusedSimpArgs false
/- slices.breakPatternsOrdered[int] -/
def sx157 (d : Option Addr) (d_n d_c : Nat) (i : Int) (p2 : Int) (R : Ending → World → Prop) (w : World) : Prop :=
  (((decide ((IntKind.i64.wrap (p2 - i)) ≥ 8)) = true → ∀ n1 : Int, n1 = IntKind.u64.wrap (IntKind.i64.wrap (p2 - i)) → ∀ (b2 : Nat) (w3 : World), Alloc w w3 b2 (.cells [.int .u64 0].toArray 228) → RoomAt w3 ⟨b2, 0, none⟩ 0
    [.int .u64 n1] ∧ ∀ w4, w4 = setCells w3 ⟨b2, 0, none⟩ 0 [.int .u64 n1] → CallsW Tryz.prog 178 [.int .i64 (IntKind.i64.wrap (p2 - i))] w4 (RetR R fun u6 w5 => ∃ (n7 : Int), u6 = .int .u64 n7 ∧ (((4 : Int) = 0 → R
    (.panicked (divPanic Tryz.prog)) w5) ∧ ((4 : Int) ≠ 0 → ∀ n9 : Int, n9 = IntKind.i64.wrap (Int.tdiv (IntKind.i64.wrap (p2 - i)) 4) → ∀ n10 : Int, n10 = IntKind.i64.wrap (i + (IntKind.i64.wrap (n9 * 2))) → ∃ (I11 : Int
    → World → Prop) (m11 : Int → World → Nat), I11 (IntKind.i64.wrap (n10 - 1)) w5 ∧ ∀ (n12 : Int) (w13 : World), I11 n12 w13 → (((4 : Int) = 0 → R (.panicked (divPanic Tryz.prog)) w13) ∧ ((4 : Int) ≠ 0 → ∀ n14 : Int, n14
    = IntKind.i64.wrap (Int.tdiv (IntKind.i64.wrap (p2 - i)) 4) → ∀ n15 : Int, n15 = IntKind.i64.wrap (i + (IntKind.i64.wrap (n14 * 2))) → (((decide (n12 ≤ IntKind.i64.wrap (n15 + 1))) = true → CallsW Tryz.prog 179
    [.pointer (some ⟨b2, 0, none⟩)] w13 (RetR R fun u17 w16 => ∃ (n18 : Int), u17 = .int .u64 n18 ∧ ∀ n20 : Int, n20 = Go.bits .and .u64 n18 (IntKind.u64.wrap (n7 - 1)) → (((decide ((IntKind.i64.wrap n20) ≥
    IntKind.i64.wrap (p2 - i))) = true → ∀ n21 : Int, n21 = IntKind.i64.wrap ((IntKind.i64.wrap n20) - (IntKind.i64.wrap (p2 - i))) → ∀ w22, Grew w16 w22 → ∀ n23 : Int, n23 = IntKind.i64.wrap (i + n21) → ∀ n24 : Int, n24
    = IntKind.i64.wrap (i + n21) → withSome d (fun d25 => (0 ≤ n24 ∧ n24 < (d_n : Nat)) ∧ ∃ (n26 : Int), w22.cell? (Addr.add d25 (n24.toNat * 1)) = some (.int .i64 n26) ∧ withSome d (fun d27 => (0 ≤ n12 ∧ n12 < (d_n :
    Nat)) ∧ ∃ (n28 : Int), w22.cell? (Addr.add d27 (n12.toNat * 1)) = some (.int .i64 n28) ∧ withSome d (fun d29 => (0 ≤ n12 ∧ n12 < (d_n : Nat)) ∧ RoomAt w22 (Addr.add d29 (n12.toNat * 1)) 0 [.int .i64 n26] ∧ ∀ w30, w30
    = setCells w22 (Addr.add d29 (n12.toNat * 1)) 0 [.int .i64 n26] → withSome d (fun d31 => (0 ≤ n23 ∧ n23 < (d_n : Nat)) ∧ RoomAt w30 (Addr.add d31 (n23.toNat * 1)) 0 [.int .i64 n28] ∧ ∀ w32, w32 = setCells w30
    (Addr.add d31 (n23.toNat * 1)) 0 [.int .i64 n28] → (I11 (IntKind.i64.wrap (n12 + 1)) w32 ∧ m11 (IntKind.i64.wrap (n12 + 1)) w32 < m11 n12 w13)))))) ∧ ((decide ((IntKind.i64.wrap n20) ≥ IntKind.i64.wrap (p2 - i))) =
    false → ∀ w33, Grew w16 w33 → ∀ n34 : Int, n34 = IntKind.i64.wrap (i + (IntKind.i64.wrap n20)) → ∀ n35 : Int, n35 = IntKind.i64.wrap (i + (IntKind.i64.wrap n20)) → withSome d (fun d36 => (0 ≤ n35 ∧ n35 < (d_n : Nat))
    ∧ ∃ (n37 : Int), w33.cell? (Addr.add d36 (n35.toNat * 1)) = some (.int .i64 n37) ∧ withSome d (fun d38 => (0 ≤ n12 ∧ n12 < (d_n : Nat)) ∧ ∃ (n39 : Int), w33.cell? (Addr.add d38 (n12.toNat * 1)) = some (.int .i64 n39)
    ∧ withSome d (fun d40 => (0 ≤ n12 ∧ n12 < (d_n : Nat)) ∧ RoomAt w33 (Addr.add d40 (n12.toNat * 1)) 0 [.int .i64 n37] ∧ ∀ w41, w41 = setCells w33 (Addr.add d40 (n12.toNat * 1)) 0 [.int .i64 n37] → withSome d (fun d42
    => (0 ≤ n34 ∧ n34 < (d_n : Nat)) ∧ RoomAt w41 (Addr.add d42 (n34.toNat * 1)) 0 [.int .i64 n39] ∧ ∀ w43, w43 = setCells w41 (Addr.add d42 (n34.toNat * 1)) 0 [.int .i64 n39] → (I11 (IntKind.i64.wrap (n12 + 1)) w43 ∧ m11
    (IntKind.i64.wrap (n12 + 1)) w43 < m11 n12 w13))))))))) ∧ ((decide (n12 ≤ IntKind.i64.wrap (n15 + 1))) = false → R (.returned (.tuple #[])) w13)))))))) ∧ ((decide ((IntKind.i64.wrap (p2 - i)) ≥ 8)) = false → R
    (.returned (.tuple #[])) w))
theorem sx157.ok {d : Option Addr} {d_n d_c : Nat} {i : Int} {p2 : Int} {R : Ending → World → Prop} {w : World} (h : sx157 d d_n d_c i p2 R w) : CallsW Tryz.prog 157 [.slice d d_n d_c, .int .i64 i, .int .i64 p2] w R :=
  callsW_of mix Tryz.func157 (by kernel_rfl) (by kernel_rfl) (Eq.mpr (by kernel_rfl : denFn Tryz.prog { named := [17, 22, 24, 29, 31, 39, 46, 52, 56], draws := [(10, { order := (.cons 0 (.cons 1 (.cons 2 (.cons 3 (.cons 4 (.cons 5 (.cons 6 (.cons 7 (.cons 8 (.cons 9 (.cons 10 (.cons 11 (.cons 12 (.cons 13 (.cons 14 (.cons 15 (.cons 16 (.cons 17 (.cons 18 (.cons 19 .nil)))))))))))))))))))), bars := [17, 19] })], loops := [(5, { slots := [(9, .int .i64)], cells := [] })] } Tryz.f157 [.slice d d_n d_c, .int .i64 i, .int .i64 p2] R w = sx157 d d_n d_c i p2 R w) h)

/- slices.pdqsortOrdered[int] -/
def sx131 (d : Option Addr) (d_n d_c : Nat) (i : Int) (p2 : Int) (p3 : Int) (R : Ending → World → Prop) (w : World) : Prop :=
  ∃ (I1 : Int → Int → Int → Bool → Bool → World → Prop) (m1 : Int → Int → Int → Bool → Bool → World → Nat), I1 i p2 p3 true true w ∧ ∀ (n2 : Int) (n3 : Int) (n4 : Int) (b5 : Bool) (b6 : Bool) (w7 : World), I1 n2 n3 n4 b5 b6
    w7 → (((decide ((IntKind.i64.wrap (n3 - n2)) ≤ 12)) = true → CallsW Tryz.prog 155 [.slice d d_n d_c, .int .i64 n2, .int .i64 n3] w7 (RetR R fun u9 w8 => u9 = .tuple #[] ∧ R (.returned (.tuple #[])) w8)) ∧ ((decide
    ((IntKind.i64.wrap (n3 - n2)) ≤ 12)) = false → (((n4 == 0) = true → CallsW Tryz.prog 156 [.slice d d_n d_c, .int .i64 n2, .int .i64 n3] w7 (RetR R fun u12 w11 => u12 = .tuple #[] ∧ R (.returned (.tuple #[])) w11)) ∧
    ((n4 == 0) = false → ∃ (J14 : Int → World → Prop), ((((!b5) = true → CallsW Tryz.prog 157 [.slice d d_n d_c, .int .i64 n2, .int .i64 n3] w7 (RetR R fun u16 w15 => u16 = .tuple #[] ∧ J14 (IntKind.i64.wrap (n4 - 1))
    w15)) ∧ ((!b5) = false → J14 n4 w7))) ∧ ∀ (n18 : Int) (w19 : World), J14 n18 w19 → CallsW Tryz.prog 158 [.slice d d_n d_c, .int .i64 n2, .int .i64 n3] w19 (RetR R fun u21 w20 => ∃ (n22 : Int) (n23 : Int), u21 = .tuple
    #[.int .i64 n22, .int .i64 n23] ∧ ∃ (J25 : Int → Int → World → Prop), ((((n23 == 2) = true → CallsW Tryz.prog 159 [.slice d d_n d_c, .int .i64 n2, .int .i64 n3] w20 (RetR R fun u27 w26 => u27 = .tuple #[] ∧ ∀ n29 :
    Int, n29 = IntKind.i64.wrap (n22 - n2) → ∀ n30 : Int, n30 = IntKind.i64.wrap ((IntKind.i64.wrap (n3 - 1)) - n29) → J25 n30 1 w26)) ∧ ((n23 == 2) = false → J25 n22 n23 w20))) ∧ ∀ (n31 : Int) (n32 : Int) (w33 : World),
    J25 n31 n32 w33 → ∃ (J34 : World → Prop), (((b5 = true → ((b6 = true → (((n32 == 1) = true → CallsW Tryz.prog 160 [.slice d d_n d_c, .int .i64 n2, .int .i64 n3] w33 (RetR R fun u36 w35 => ∃ (b37 : Bool), u36 = .bool
    b37 ∧ ((b37 = true → R (.returned (.tuple #[])) w35) ∧ (b37 = false → J34 w35)))) ∧ ((n32 == 1) = false → J34 w33))) ∧ (b6 = false → J34 w33))) ∧ (b5 = false → J34 w33))) ∧ ∀  (w39 : World), J34 w39 → ∃ (J40 : Int →
    World → Prop), (∀ w41, Grew w39 w41 → (((decide (n2 > 0)) = true → withSome d (fun d42 => (0 ≤ (IntKind.i64.wrap (n2 - 1)) ∧ (IntKind.i64.wrap (n2 - 1)) < (d_n : Nat)) ∧ ∃ (n43 : Int), w41.cell? (Addr.add d42
    ((IntKind.i64.wrap (n2 - 1)).toNat * 1)) = some (.int .i64 n43) ∧ withSome d (fun d44 => (0 ≤ n31 ∧ n31 < (d_n : Nat)) ∧ ∃ (n45 : Int), w41.cell? (Addr.add d44 (n31.toNat * 1)) = some (.int .i64 n45) ∧ CallsW Tryz.prog
    161 [.int .i64 n43, .int .i64 n45] w41 (RetR R fun u47 w46 => ∃ (b48 : Bool), u47 = .bool b48 ∧ SameB w41 w46 [(Addr.add d44 (n31.toNat * 1)), (Addr.add d42 ((IntKind.i64.wrap (n2 - 1)).toNat * 1))] ∧ (((!b48) = true
    → CallsW Tryz.prog 162 [.slice d d_n d_c, .int .i64 n2, .int .i64 n3, .int .i64 n31] w46 (RetR R fun u51 w50 => ∃ (n52 : Int), u51 = .int .i64 n52 ∧ (I1 n52 n3 n18 b5 b6 w50 ∧ m1 n52 n3 n18 b5 b6 w50 < m1 n2 n3 n4 b5
    b6 w7))) ∧ ((!b48) = false → J40 n2 w46)))))) ∧ ((decide (n2 > 0)) = false → J40 n2 w41))) ∧ ∀ (n54 : Int) (w55 : World), J40 n54 w55 → CallsW Tryz.prog 163 [.slice d d_n d_c, .int .i64 n54, .int .i64 n3, .int .i64
    n31] w55 (RetR R fun u57 w56 => ∃ (n58 : Int) (b59 : Bool), u57 = .tuple #[.int .i64 n58, .bool b59] ∧ ∀ n61 : Int, n61 = IntKind.i64.wrap (n58 - n54) → ∀ n62 : Int, n62 = IntKind.i64.wrap (n3 - n58) → (((8 : Int) = 0
    → R (.panicked (divPanic Tryz.prog)) w56) ∧ ((8 : Int) ≠ 0 → ∀ n63 : Int, n63 = IntKind.i64.wrap (Int.tdiv (IntKind.i64.wrap (n3 - n2)) 8) → (((decide (n61 < n62)) = true → CallsW Tryz.prog 131 [.slice d d_n d_c, .int
    .i64 n54, .int .i64 n58, .int .i64 n18] w56 (RetR R fun u65 w64 => u65 = .tuple #[] ∧ (I1 (IntKind.i64.wrap (n58 + 1)) n3 n18 (decide (n61 ≥ n63)) b59 w64 ∧ m1 (IntKind.i64.wrap (n58 + 1)) n3 n18 (decide (n61 ≥ n63))
    b59 w64 < m1 n2 n3 n4 b5 b6 w7))) ∧ ((decide (n61 < n62)) = false → CallsW Tryz.prog 131 [.slice d d_n d_c, .int .i64 (IntKind.i64.wrap (n58 + 1)), .int .i64 n3, .int .i64 n18] w56 (RetR R fun u68 w67 => u68 = .tuple
    #[] ∧ (I1 n54 n58 n18 (decide (n62 ≥ n63)) b59 w67 ∧ m1 n54 n58 n18 (decide (n62 ≥ n63)) b59 w67 < m1 n2 n3 n4 b5 b6 w7))))))))))))
theorem sx131.ok {d : Option Addr} {d_n d_c : Nat} {i : Int} {p2 : Int} {p3 : Int} {R : Ending → World → Prop} {w : World} (h : sx131 d d_n d_c i p2 p3 R w) : CallsW Tryz.prog 131 [.slice d d_n d_c, .int .i64 i, .int .i64 p2, .int .i64 p3] w R :=
  callsW_of mix Tryz.func131 (by kernel_rfl) (by kernel_rfl) (Eq.mpr (by kernel_rfl : denFn Tryz.prog { named := [59, 60, 105, 108, 110], draws := [(17, { order := (.cons 0 (.cons 1 (.cons 2 (.cons 3 (.cons 4 (.cons 5 (.cons 6 (.cons 7 (.cons 8 (.cons 9 (.cons 10 (.cons 11 (.cons 12 (.cons 13 (.cons 14 .nil))))))))))))))), bars := [] })], loops := [(2, { slots := [(1, .int .i64), (2, .int .i64), (3, .int .i64), (8, .bool), (9, .bool)], cells := [] })], cuts := [(10, { slots := [(3, .int .i64)], cells := [] }), (15, { slots := [(11, .int .i64), (12, .int .i64)], cells := [] }), (17, { slots := [], cells := [] }), (20, { slots := [(1, .int .i64)], cells := [] })] } Tryz.f131 [.slice d d_n d_c, .int .i64 i, .int .i64 p2, .int .i64 p3] R w = sx131 d d_n d_c i p2 p3 R w) h)

/- slices.Sort[[]int,int] -/
def sx109 (x : Option Addr) (x_n x_c : Nat) (R : Ending → World → Prop) (w : World) : Prop :=
  ∀ n1 : Int, n1 = IntKind.u64.wrap ((x_n : Nat) : Int) → CallsW Tryz.prog 132 [.int .u64 n1] w (RetR R fun u3 w2 => ∃ (n4 : Int), u3 = .int .i64 n4 ∧ CallsW Tryz.prog 131 [.slice x x_n x_c, .int .i64 0, .int .i64 ((x_n :
    Nat) : Int), .int .i64 n4] w2 (RetR R fun u7 w6 => u7 = .tuple #[] ∧ R (.returned (.tuple #[])) w6))
theorem sx109.ok {x : Option Addr} {x_n x_c : Nat} {R : Ending → World → Prop} {w : World} (h : sx109 x x_n x_c R w) : CallsW Tryz.prog 109 [.slice x x_n x_c] w R :=
  callsW_of mix Tryz.func109 (by kernel_rfl) (by kernel_rfl) (Eq.mpr (by kernel_rfl : denFn Tryz.prog { named := [8] } Tryz.f109 [.slice x x_n x_c] R w = sx109 x x_n x_c R w) h)

open Go.Sort

/-- the row's part is turned about -/
def Prm_I (B : Nat) (p : Option Addr) (n c : Nat) (w : World) (a b : Nat) (d : Array Int) (v : Value) (w' : World) : Prop := v = .tuple #[] ∧ ∃ d', Sr_I B p n c w' d' ∧ PermIn a b d d' ∧ Upd (Blk p) w w'

theorem brk_I_ok {B : Nat} {p : Option Addr} {n c a b : Nat} {d : Array Int} {w : World} (h : Sr_I B p n c w d) (hab : a < b) (hb : b ≤ d.size) (hsz : d.size < 2305843009213693952) :
    CallsW Tryz.prog 157 [.slice p n c, .int .i64 a, .int .i64 b] w (Rets (Prm_I B p n c w a b d)) := by
  refine sx157.ok ?_
  unfold sx157
  have e0 : IntKind.i64.wrap ((b : Int) - (a : Int)) = ((b - a : Nat) : Int) := by rw [IntKind.wrap_i64]; omega
  rw [e0]
  obtain ⟨l, hl⟩ : ∃ l, l = b - a := ⟨_, rfl⟩
  rw [← hl]
  refine ⟨fun h8 => ?_, fun _ => ⟨_, rfl, rfl, d, h, permIn_refl _ _ _, Upd.refl _ _⟩⟩
  simp only [decide_eq_true_eq, ge_iff_le] at h8
  rintro n1 rfl
  intro r w3 hal
  have hrow0 : Row w3 r 228 [.int .u64 0] := hal.at_
  obtain ⟨hr, hrow, hu⟩ := hrow0.set1 (o := 0) (by simp) (.int .u64 (IntKind.u64.wrap (l : Int)))
  refine ⟨hr, ?_⟩
  rintro w4 rfl
  generalize IntKind.u64.wrap (l : Int) = x0 at hrow hu ⊢
  generalize setCells w3 ⟨r, 0, none⟩ 0 [.int .u64 x0] = w4 at hrow hu ⊢
  have hrow4 : Row w4 r 228 [.int .u64 x0] := hrow
  have hg4 : Grew w w4 := hal.grew.then_own hu fun b hb => by rw [hb]; exact hal.new
  have hpr : ¬ Blk p r := fun hb => by have := (h.blk hb).2; have := hal.new; omega
  refine (nextPow_ok (by omega) (by omega)).use fun v w5 ⟨q, hv, hq1, hq2, hw⟩ => ?_
  subst hv; subst hw
  refine ⟨q, rfl, fun h => (by cases h), fun _ => ?_⟩
  have e1 : IntKind.i64.wrap (Int.tdiv (l : Int) 4) = ((l / 4 : Nat) : Int) := by rw [Int.tdiv_eq_ediv_of_nonneg (by omega), IntKind.wrap_i64]; omega
  have e2 : IntKind.i64.wrap ((a : Int) + IntKind.i64.wrap (((l / 4 : Nat) : Int) * 2)) = ((a + l / 4 * 2 : Nat) : Int) := by
    have hq : l / 4 ≤ 2305843009213693952 := by omega
    generalize l / 4 = q4 at hq ⊢
    have e : IntKind.i64.wrap ((q4 : Int) * 2) = ((q4 * 2 : Nat) : Int) := by rw [IntKind.wrap_i64]; omega
    rw [e]
    have e' : ((a : Int) + ((q4 * 2 : Nat) : Int)) = ((a + q4 * 2 : Nat) : Int) := by omega
    rw [e']
    have hb' : a + q4 * 2 < 9223372036854775808 := by omega
    generalize a + q4 * 2 = z at hb' ⊢
    rw [IntKind.wrap_i64]; omega
  rintro n9 rfl n10 rfl
  rw [e1, e2]
  have e3 : IntKind.i64.wrap (((a + l / 4 * 2 : Nat) : Int) - 1) = ((a + l / 4 * 2 - 1 : Nat) : Int) := by rw [IntKind.wrap_i64]; omega
  have e4 : IntKind.i64.wrap (((a + l / 4 * 2 : Nat) : Int) + 1) = ((a + l / 4 * 2 + 1 : Nat) : Int) := by rw [IntKind.wrap_i64]; omega
  rw [e3]
  refine ⟨fun x w' => ∃ (k : Nat) (d' : Array Int), x = k ∧ a + l / 4 * 2 - 1 ≤ k ∧ k ≤ a + l / 4 * 2 + 2 ∧ Sr_I B p n c w' d' ∧ PermIn a b d d' ∧ (∃ y : Int, Row w' r 228 [.int .u64 y]) ∧ Upd (Blk p) w w', fun x _ => a + l / 4 * 2 + 2 - x.toNat, ⟨a + l / 4 * 2 - 1, d, rfl, Nat.le_refl _, by omega, h.grew hg4, permIn_refl _ _ _, ⟨x0, hrow4⟩, hg4.upd⟩, ?_⟩
  rintro x w13 ⟨k, d1, rfl, hk, hk2, h13, hp13, ⟨y, hrow13⟩, hu13⟩
  refine ⟨fun h => (by cases h), fun _ => ?_⟩
  rintro n14 rfl n15 rfl
  rw [e2, e4]
  refine ⟨fun hle => ?_, fun _ => ⟨_, rfl, rfl, d1, h13, hp13, hu13⟩⟩
  simp only [decide_eq_true_eq] at hle
  have hs1 : d1.size = d.size := hp13.1
  refine (xnext_ok hrow13).use fun v w16 ⟨z, hv, hz0, hz1, hrow16, hu16⟩ => ?_
  subst hv
  have h16 : Sr_I B p n c w16 d1 := h13.upd hu16 (fun b hb e => hpr (e ▸ hb))
  have hu16' : Upd (Blk p) w w16 := hu13.then hu16 fun k hk e => by rw [e] at hk; have := hal.new; omega
  refine ⟨z, rfl, ?_⟩
  rintro n20 rfl
  have e5 : IntKind.u64.wrap (q - 1) = q - 1 := by rw [IntKind.wrap_u64]; omega
  rw [e5, u64_and z (q - 1) hz0 hz1 (by omega) (by omega)]
  have hand : z.toNat &&& (q - 1).toNat ≤ (q - 1).toNat := Nat.and_le_right
  obtain ⟨o, ho⟩ : ∃ o, o = z.toNat &&& (q - 1).toNat := ⟨_, rfl⟩
  rw [← ho] at hand ⊢
  have e6 : IntKind.i64.wrap (o : Int) = o := by rw [IntKind.wrap_i64]; omega
  have e7 : IntKind.i64.wrap ((k : Int) + 1) = ((k + 1 : Nat) : Int) := by rw [IntKind.wrap_i64]; omega
  rw [e6, e7]
  have hstep : ∀ (t : Nat) (w22 : World), t < l → Grew w16 w22 → (∃ (k' : Nat) (d' : Array Int), ((k + 1 : Nat) : Int) = k' ∧ True) := fun t w22 _ _ => ⟨k + 1, d1, rfl, trivial⟩
  have fin : ∀ (t : Nat) (w22 w32 : World), t < l → Grew w16 w22 → Sr_I B p n c w32 (swp d1 k (a + t)) → Upd (Blk p) w22 w32 → (∃ (k' : Nat) (d' : Array Int), ((k + 1 : Nat) : Int) = k' ∧ a + l / 4 * 2 - 1 ≤ k' ∧ k' ≤ a + l / 4 * 2 + 2 ∧ Sr_I B p n c w32 d' ∧ PermIn a b d d' ∧ (∃ y : Int, Row w32 r 228 [.int .u64 y]) ∧ Upd (Blk p) w w32) ∧ a + l / 4 * 2 + 2 - (((k + 1 : Nat) : Int)).toNat < a + l / 4 * 2 + 2 - ((k : Int)).toNat := by
    intro t w22 w32 ht hg22 h32 hu32
    exact ⟨⟨k + 1, _, rfl, by omega, by omega, h32, permIn_trans _ _ _ _ _ hp13 (swp_permIn d1 a b k (a + t) (by omega) (by omega) (by omega) (by omega) (by omega)), ⟨z, (hrow16.grew hg22).upd hu32 hpr⟩, (hu16'.then_grew hg22).trans hu32⟩, by omega⟩
  refine ⟨fun hge => ?_, fun hlt => ?_⟩
  · simp only [decide_eq_true_eq, ge_iff_le] at hge
    rintro n21 rfl
    intro w22 hg22
    have e8 : IntKind.i64.wrap ((o : Int) - (l : Int)) = ((o - l : Nat) : Int) := by rw [IntKind.wrap_i64]; omega
    have e9 : IntKind.i64.wrap ((a : Int) + ((o - l : Nat) : Int)) = ((a + (o - l) : Nat) : Int) := by rw [IntKind.wrap_i64]; omega
    rw [e8, e9]
    have h22 := h16.grew hg22
    rintro n23 rfl n24 rfl
    refine Ar.rd h22 (i := a + (o - l)) rfl (by omega) fun q3 => Ar.rd h22 (i := k) rfl (by omega) fun q4 => Ar.st h22 (i := k) rfl (by omega) fun q5 w30 h30 hu30 => Ar.st h30 (i := a + (o - l)) rfl (by simp; omega) fun q6 w32 h32 hu32 => ?_
    exact fin (o - l) w22 w32 (by omega) hg22 h32 (hu30.trans hu32)
  · simp only [decide_eq_false_iff_not, ge_iff_le] at hlt
    intro w22 hg22
    have e9 : IntKind.i64.wrap ((a : Int) + (o : Int)) = ((a + o : Nat) : Int) := by rw [IntKind.wrap_i64]; omega
    rw [e9]
    have h22 := h16.grew hg22
    rintro n23 rfl n24 rfl
    refine Ar.rd h22 (i := a + o) rfl (by omega) fun q3 => Ar.rd h22 (i := k) rfl (by omega) fun q4 => Ar.st h22 (i := k) rfl (by omega) fun q5 w30 h30 hu30 => Ar.st h30 (i := a + o) rfl (by simp; omega) fun q6 w32 h32 hu32 => ?_
    exact fin o w22 w32 (by omega) hg22 h32 (hu30.trans hu32)

/-- the row's part is sorted -/
def Sor_I (B : Nat) (p : Option Addr) (n c : Nat) (w : World) (a b : Nat) (d : Array Int) (v : Value) (w' : World) : Prop := v = .tuple #[] ∧ ∃ d', Sr_I B p n c w' d' ∧ PermIn a b d d' ∧ SortedIn ltInt a b d' ∧ Upd (Blk p) w w'

set_option maxHeartbeats 1000000 in
theorem pdq_I_ok : ∀ (N : Nat) {B : Nat} {p : Option Addr} {n c a b : Nat} {lim : Int} {d : Array Int} {w : World} (h : Sr_I B p n c w d) (hN : b - a ≤ N) (hab : a ≤ b) (hb : b ≤ d.size) (hsz : d.size < 2305843009213693952) (hB : Go.Sort.Below ltInt a b d),
    CallsW Tryz.prog 131 [.slice p n c, .int .i64 a, .int .i64 b, .int .i64 lim] w (Rets (Sor_I B p n c w a b d)) := by
  intro N
  induction N with
  | zero => ?_
  | succ N ih => ?_
  all_goals
    intro B p n c a b lim d w h hN hab hb hsz hB
    refine sx131.ok ?_
    unfold sx131
    refine ⟨fun x y _ _ _ w' => ∃ (i j : Nat) (d1 : Array Int), x = i ∧ y = j ∧ a ≤ i ∧ i ≤ j ∧ j ≤ b ∧ d1.size = d.size ∧ Sr_I B p n c w' d1 ∧ Go.Sort.Below ltInt i j d1 ∧ (∀ R, PermIn i j d1 R → SortedIn ltInt i j R → PermIn a b d R ∧ SortedIn ltInt a b R) ∧ Upd (Blk p) w w', fun x y _ _ _ _ => (y - x).toNat, ⟨a, b, d, rfl, rfl, Nat.le_refl _, hab, Nat.le_refl _, rfl, h, hB, fun R h1 h2 => ⟨h1, h2⟩, Upd.refl _ _⟩, ?_⟩
    rintro x y lim' wb wp w7 ⟨i, j, d1, rfl, rfl, hai, hij, hjb, hs1, h7, hB7, hfin, hu7⟩
    have e0 : IntKind.i64.wrap ((j : Int) - (i : Int)) = ((j - i : Nat) : Int) := by rw [IntKind.wrap_i64]; omega
    rw [e0]
    refine ⟨fun h12 => ?_, fun h12 => ?_⟩
    · refine (ins_I_ok h7 hij (by omega) (by omega)).use fun v w8 ⟨hv, h8, hu8⟩ => ?_
      obtain ⟨hp, hso⟩ := insertionSort_holds (lt := ltInt) swo_ltInt d1 i j hij (by omega)
      obtain ⟨g1, g2⟩ := hfin _ hp hso
      exact ⟨hv, _, rfl, rfl, _, h8, g1, g2, hu7.trans hu8⟩
  · simp only [decide_eq_false_iff_not] at h12
    omega
  simp only [decide_eq_false_iff_not] at h12
  have hij' : i < j := by omega
  refine ⟨fun h0 => ?_, fun h0 => ?_⟩
  · refine (heap_I_ok h7 hij' (by omega) (by omega)).use fun v w8 ⟨hv, h8, hu8⟩ => ?_
    obtain ⟨hp, hso⟩ := heapSort_holds (lt := ltInt) swo_ltInt d1 i j hij (by omega)
    obtain ⟨g1, g2⟩ := hfin _ hp hso
    exact ⟨hv, _, rfl, rfl, _, h8, g1, g2, hu7.trans hu8⟩
  refine ⟨fun _ w' => ∃ d2, Sr_I B p n c w' d2 ∧ PermIn i j d1 d2 ∧ Upd (Blk p) w w', ⟨fun hb5 => ?_, fun hb5 => ⟨d1, h7, permIn_refl _ _ _, hu7⟩⟩, ?_⟩
  · refine (brk_I_ok h7 hij' (by omega) (by omega)).use fun v w8 ⟨hv, d2, h8, hp8, hu8⟩ => ?_
    exact ⟨hv, d2, h8, hp8, hu7.trans hu8⟩
  rintro lim2 w19 ⟨d2, h19, hp19, hu19⟩
  have hs2 : d2.size = d.size := hp19.1.trans hs1
  refine (piv_I_ok h19 hij' (by omega) (by omega)).use fun v w20 ⟨m, hint, hv, hm1, hm2, h20, hg20⟩ => ?_
  subst hv
  refine ⟨_, _, rfl, fun x _ w' => ∃ (pv : Nat) (d3 : Array Int), x = pv ∧ i ≤ pv ∧ pv < j ∧ Sr_I B p n c w' d3 ∧ PermIn i j d1 d3 ∧ Upd (Blk p) w w', ⟨fun h2 => ?_, fun h2 => ⟨m, d2, rfl, hm1, hm2, h20, hp19, hu19.then_grew hg20⟩⟩, ?_⟩
  · refine (rev_I_ok h20 hij' (by omega) (by omega)).use fun v w26 ⟨hv, h26, hu26⟩ => ⟨hv, ?_⟩
    have e1 : IntKind.i64.wrap ((m : Int) - (i : Int)) = ((m - i : Nat) : Int) := by rw [IntKind.wrap_i64]; omega
    have e2 : IntKind.i64.wrap ((j : Int) - 1) = ((j - 1 : Nat) : Int) := by rw [IntKind.wrap_i64]; omega
    have e3 : IntKind.i64.wrap (((j - 1 : Nat) : Int) - ((m - i : Nat) : Int)) = ((j - 1 - (m - i) : Nat) : Int) := by rw [IntKind.wrap_i64]; omega
    rintro n29 rfl n30 rfl
    rw [e1, e2, e3]
    exact ⟨j - 1 - (m - i), _, rfl, by omega, by omega, h26, permIn_trans _ _ _ _ _ hp19 (reverseRange_holds d2 i j hij (by omega)), (hu19.then_grew hg20).trans hu26⟩
  rintro x hint' w33 ⟨pv, d3, rfl, hpv1, hpv2, h33, hp33, hu33⟩
  have hs3 : d3.size = d.size := hp33.1.trans hs1
  have hB3 : Go.Sort.Below ltInt i j d3 := hB7.perm (by omega) hp33
  have hpar := partialInsertionSort_holds (lt := ltInt) swo_ltInt d3 i j hij' (by omega) hB3
  refine ⟨fun w' => ∃ d4, Sr_I B p n c w' d4 ∧ PermIn i j d1 d4 ∧ Upd (Blk p) w w', ⟨fun _ => ⟨fun _ => ⟨fun _ => ?_, fun _ => ⟨d3, h33, hp33, hu33⟩⟩, fun _ => ⟨d3, h33, hp33, hu33⟩⟩, fun _ => ⟨d3, h33, hp33, hu33⟩⟩, ?_⟩
  · refine (par_I_ok h33 hij' (by omega) (by omega)).use fun v w35 ⟨hv, h35, hu35⟩ => ?_
    subst hv
    have hp35 := permIn_trans _ _ _ _ _ hp33 hpar.1
    refine ⟨_, rfl, fun hT => ?_, fun _ => ⟨_, h35, hp35, hu33.trans hu35⟩⟩
    obtain ⟨g1, g2⟩ := hfin _ hp35 (hpar.2 hT)
    exact ⟨_, rfl, rfl, _, h35, g1, g2, hu33.trans hu35⟩
  rintro w39 ⟨d4, h39, hp39, hu39⟩
  have hs4 : d4.size = d.size := hp39.1.trans hs1
  have hB4 : Go.Sort.Below ltInt i j d4 := hB7.perm (by omega) hp39
  have hfin4 : ∀ R, PermIn i j d4 R → SortedIn ltInt i j R → PermIn a b d R ∧ SortedIn ltInt a b R := fun R h1 h2 => hfin R (permIn_trans _ _ _ _ _ hp39 h1) h2
  refine ⟨fun x w' => x = (i : Nat) ∧ Sr_I B p n c w' d4 ∧ Upd (Blk p) w w', fun w41 hg41 => ⟨fun hi0 => ?_, fun hi0 => ⟨rfl, h39.grew hg41, hu39.then_grew hg41⟩⟩, ?_⟩
  · simp only [decide_eq_true_eq] at hi0
    have h41 := h39.grew hg41
    have hu41 := hu39.then_grew hg41
    have e1 : IntKind.i64.wrap ((i : Int) - 1) = ((i - 1 : Nat) : Int) := by rw [IntKind.wrap_i64]; omega
    rw [e1]
    refine Ar.rd h41 (i := i - 1) rfl (by omega) fun q1 => Ar.rd h41 (i := pv) rfl (by omega) fun q2 => less_I_use ⟨_, rfl, sameB_refl _ _, fun hl => ?_, fun hl => ⟨rfl, h41, hu41⟩⟩
    have hl' : ltInt d4[i - 1]! d4[pv]! = false := by simpa using hl
    refine (parteq_I_ok h41 hpv1 hpv2 (by omega) (by omega)).use fun v w50 ⟨hv, h50, hu50⟩ => ?_
    subst hv
    obtain ⟨r, hr⟩ : ∃ r, r = partitionEqual ltInt d4 i j pv := ⟨_, rfl⟩
    rw [← hr] at h50 ⊢
    obtain ⟨mid, d5⟩ := r
    simp only at h50 ⊢
    obtain ⟨g1, g2, g3, g4, g5⟩ := round_eq swo_ltInt (partitionEqual_holds ltInt) (by omega) hpv1 hpv2 (by omega) hB4 hl' hr.symm
    refine ⟨_, rfl, ⟨mid, j, d5, rfl, rfl, by omega, g2, hjb, g3.trans hs4, h50, g4, fun R h1 h2 => ?_, hu41.trans hu50⟩, by show ((j : Int) - (mid : Int)).toNat < ((j : Int) - (i : Int)).toNat; omega⟩
    obtain ⟨k1, k2⟩ := g5 R h1 h2
    exact hfin4 R k1 k2
  rintro x w55 ⟨rfl, h55, hu55⟩
  refine (part_I_ok h55 hpv1 hpv2 (by omega) (by omega)).use fun v w56 ⟨hv, h56, hu56⟩ => ?_
  subst hv
  obtain ⟨r, hr⟩ : ∃ r, r = partition ltInt d4 i j pv := ⟨_, rfl⟩
  rw [← hr] at h56 ⊢
  obtain ⟨mid, ap, d5⟩ := r
  simp only at h56 ⊢
  obtain ⟨g1, g2, g3, g4, g5, g6, g7⟩ := round_part swo_ltInt (partition_holds ltInt) hpv1 hpv2 (by omega) hB4 hr.symm
  have hu56' := hu55.trans hu56
  have e1 : IntKind.i64.wrap ((mid : Int) - (i : Int)) = ((mid - i : Nat) : Int) := by rw [IntKind.wrap_i64]; omega
  have e2 : IntKind.i64.wrap ((j : Int) - (mid : Int)) = ((j - mid : Nat) : Int) := by rw [IntKind.wrap_i64]; omega
  have e3 : IntKind.i64.wrap ((mid : Int) + 1) = ((mid + 1 : Nat) : Int) := by rw [IntKind.wrap_i64]; omega
  refine ⟨_, _, rfl, ?_⟩
  rintro n61 rfl n62 rfl
  rw [e1, e2, e3]
  refine ⟨fun h => (by cases h), fun _ => ?_⟩
  rintro n63 rfl
  refine ⟨fun hlt => ?_, fun hge => ?_⟩
  · refine (ih h56 (by omega) g1 (by omega) (by omega) g4).use fun v w64 ⟨hv, d6, h64, hp64, hs64, hu64⟩ => ⟨hv, ?_⟩
    obtain ⟨k1, k2⟩ := g6 d6 hp64 hs64
    refine ⟨⟨mid + 1, j, d6, rfl, rfl, by omega, by omega, hjb, hp64.1.trans (g3.trans hs4), h64, k1, fun R h1 h2 => ?_, hu56'.trans hu64⟩, by show ((j : Int) - ((mid + 1 : Nat) : Int)).toNat < ((j : Int) - (i : Int)).toNat; omega⟩
    obtain ⟨m1, m2⟩ := k2 R h1 h2
    exact hfin4 R m1 m2
  · refine (ih h56 (by omega) (by omega) (by omega) (by omega) g5).use fun v w64 ⟨hv, d6, h64, hp64, hs64, hu64⟩ => ⟨hv, ?_⟩
    obtain ⟨k1, k2⟩ := g7 d6 hp64 hs64
    refine ⟨⟨i, mid, d6, rfl, rfl, hai, g1, by omega, hp64.1.trans (g3.trans hs4), h64, k1, fun R h1 h2 => ?_, hu56'.trans hu64⟩, by show ((mid : Int) - (i : Int)).toNat < ((j : Int) - (i : Int)).toNat; omega⟩
    obtain ⟨m1, m2⟩ := k2 R h1 h2
    exact hfin4 R m1 m2

theorem Sort_I_ok {B : Nat} {p : Option Addr} {n c : Nat} {l : List Int} {w : World} (h : Own w B 3 (Enc.int .i64) p n c l) (hsz : l.length < 2305843009213693952) :
    CallsW Tryz.prog 109 [.slice p n c] w (Rets fun v w' => v = .tuple #[] ∧ Own w' B 3 (Enc.int .i64) p n c (sortL l) ∧ Upd (Blk p) w w') := by
  refine sx109.ok ?_
  unfold sx109
  have hn : n = l.length := h.len
  subst hn
  rintro n1 rfl
  have e0 : IntKind.u64.wrap (l.length : Int) = l.length := by rw [IntKind.wrap_u64]; omega
  rw [e0]
  refine (Len_ok (by omega) (by omega)).use fun v w2 ⟨m, hv, hm, hp, hw⟩ => ?_
  subst hv; subst hw
  have h' : Sr_I B p l.length c w2 l.toArray := by simpa using h
  refine ⟨_, rfl, (pdq_I_ok l.length (a := 0) (b := l.length) (d := l.toArray) (lim := m) h' (by omega) (Nat.zero_le _) (by simp) (by simpa using hsz) (.inl rfl)).use fun v w6 ⟨hv, d', h6, hp6, hs6, hu6⟩ => ⟨hv, ?_⟩⟩
  refine ⟨_, rfl, rfl, ?_, hu6⟩
  have e : d'.toList = sortL l := sortL_unique (by simpa using hp6) (by simpa using hs6)
  rw [← e]; exact h6
end Go.Proofs.YtcpkneemhfnanaaGreat
