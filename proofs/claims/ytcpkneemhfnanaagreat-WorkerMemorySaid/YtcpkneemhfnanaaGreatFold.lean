/- What tables are, in the program. Conditions: none. -/
import Derived.Test.YtcpkneemhfnanaaGreatProg
import Derived.Test.YtcpkneemhfnanaaGreatAgg
import Derived.Test.YtcpkneemhfnanaaGreatOps
import Derived.Test.YtcpkneemhfnanaaGreatIter_F
namespace Go.Proofs.YtcpkneemhfnanaaGreat
open Go.Sx
set_option maxRecDepth 100000
set_option linter.unusedVariables false
set_option linter.unusedSimpArgs false
/- reprise/fold.Sound -/
def sx66 (table : Option Addr) (table_n table_c : Nat) (R : Ending → World → Prop) (w : World) : Prop :=
  ∃ (I1 : Int → World → Prop) (m1 : Int → World → Nat), I1 0 w ∧ ∀ (n2 : Int) (w3 : World), I1 n2 w3 → (((decide (n2 < ((table_n : Nat) : Int))) = true → withSome table (fun d4 => (0 ≤ n2 ∧ n2 < (table_n : Nat)) ∧ ∃ (n5 :
    Int) (b6 : Bool) (n7 : Int), CellsAt w3 (Addr.add d4 (n2.toNat * 3)) 0 [.int .u64 n5, .bool b6, .int .u64 n7] ∧ ∀ w8, Grew w3 w8 → (((!b6) = true → ∀ w9, Grew w8 w9 → R (.returned (.bool false)) w9) ∧ ((!b6) = false →
    (((decide (n2 > 0)) = true → withSome table (fun d10 => (0 ≤ (IntKind.i64.wrap (n2 - 1)) ∧ (IntKind.i64.wrap (n2 - 1)) < (table_n : Nat)) ∧ ∃ (n11 : Int), w8.cell? (Addr.add d10 ((IntKind.i64.wrap (n2 - 1)).toNat *
    3)) = some (.int .u64 n11) ∧ ∀ w12, Grew w8 w12 → (((decide (n5 ≤ n11)) = true → R (.returned (.bool false)) w12) ∧ ((decide (n5 ≤ n11)) = false → (I1 (IntKind.i64.wrap (n2 + 1)) w12 ∧ m1 (IntKind.i64.wrap (n2 + 1))
    w12 < m1 n2 w3))))) ∧ ((decide (n2 > 0)) = false → ∀ w13, Grew w8 w13 → (I1 (IntKind.i64.wrap (n2 + 1)) w13 ∧ m1 (IntKind.i64.wrap (n2 + 1)) w13 < m1 n2 w3))))))) ∧ ((decide (n2 < ((table_n : Nat) : Int))) = false → R
    (.returned (.bool true)) w3))
theorem sx66.ok {table : Option Addr} {table_n table_c : Nat} {R : Ending → World → Prop} {w : World} (h : sx66 table table_n table_c R w) : CallsW Tryz.prog 66 [.slice table table_n table_c] w R :=
  callsW_of mix Tryz.func66 (by kernel_rfl) (by kernel_rfl) (Eq.mpr (by kernel_rfl : denFn Tryz.prog { locals := [4], loops := [(2, { slots := [(7, .int .i64)], cells := [] })] } Tryz.f66 [.slice table table_n table_c] R w = sx66 table table_n table_c R w) h)

/- reprise/fold.Keys -/
def sx30 (table : Option Addr) (table_n table_c : Nat) (R : Ending → World → Prop) (w : World) : Prop :=
  SemW Tryz.prog (Instr.makeSlice 45 (.int .i64 ((table_n : Nat) : Int)) (.int .i64 ((table_n : Nat) : Int))) (fun u2 w1 => ∃ (a3 : Option Addr) (l3 c3 : Nat), u2 = .slice a3 l3 c3 ∧ ∃ (I4 : Int → World → Prop) (m4 : Int →
    World → Nat), I4 0 w1 ∧ ∀ (n5 : Int) (w6 : World), I4 n5 w6 → (((decide (n5 < ((table_n : Nat) : Int))) = true → withSome table (fun d7 => (0 ≤ n5 ∧ n5 < (table_n : Nat)) ∧ ∃ (n8 : Int) (b9 : Bool) (n10 : Int),
    CellsAt w6 (Addr.add d7 (n5.toNat * 3)) 0 [.int .u64 n8, .bool b9, .int .u64 n10] ∧ ∀ w11, Grew w6 w11 → withSome a3 (fun d12 => (0 ≤ n5 ∧ n5 < (l3 : Nat)) ∧ RoomAt w11 (Addr.add d12 (n5.toNat * 1)) 0 [.int .u64 n8] ∧
    ∀ w13, w13 = setCells w11 (Addr.add d12 (n5.toNat * 1)) 0 [.int .u64 n8] → (I4 (IntKind.i64.wrap (n5 + 1)) w13 ∧ m4 (IntKind.i64.wrap (n5 + 1)) w13 < m4 n5 w6)))) ∧ ((decide (n5 < ((table_n : Nat) : Int))) = false → R
    (.returned (.slice a3 l3 c3)) w6))) w
theorem sx30.ok {table : Option Addr} {table_n table_c : Nat} {R : Ending → World → Prop} {w : World} (h : sx30 table table_n table_c R w) : CallsW Tryz.prog 30 [.slice table table_n table_c] w R :=
  callsW_of mix Tryz.func30 (by kernel_rfl) (by kernel_rfl) (Eq.mpr (by kernel_rfl : denFn Tryz.prog { locals := [5], sem := [8], loops := [(3, { slots := [(11, .int .i64)], cells := [] })] } Tryz.f30 [.slice table table_n table_c] R w = sx30 table table_n table_c R w) h)

/- (reprise/fold.gathered).table -/
def sx68 (g : Nat) (R : Ending → World → Prop) (w : World) : Prop :=
  CallsW Tryz.prog 115 [.map (some g)] w (RetR R fun u2 w1 => ∃ (v3 : Value), u2 = v3 ∧ CallsW Tryz.prog 114 [v3] w1 (RetR R fun u6 w5 => ∃ (a7 : Option Addr) (l7 c7 : Nat), u6 = .slice a7 l7 c7 ∧ ∃ (I9 : Option Addr → Nat →
    Nat → Int → World → Prop) (m9 : Option Addr → Nat → Nat → Int → World → Nat), I9 none 0 0 0 w5 ∧ ∀ (a10 : Option Addr) (l10 c10 : Nat) (n11 : Int) (w12 : World), I9 a10 l10 c10 n11 w12 → (((decide (n11 < ((l7 : Nat) :
    Int))) = true → withSome a7 (fun d13 => (0 ≤ n11 ∧ n11 < (l7 : Nat)) ∧ ∃ (n14 : Int), w12.cell? (Addr.add d13 (n11.toNat * 1)) = some (.int .u64 n14) ∧ SemW Tryz.prog (Instr.lookup 150 (.map (some g)) (.int .u64 n14)
    false) (fun u16 w15 => ∃ (b17 : Bool) (n18 : Int), u16 = .agg #[.bool b17, .int .u64 n18] ∧ ∀ (b19 : Nat) (w20 : World), Alloc w15 w20 b19 (.cells #[.int .u64 n14, .bool b17, .int .u64 n18] 83) → SemW Tryz.prog
    (Builtin.append_ #[46, 46] 46 #[.slice a10 l10 c10, .slice (some ⟨b19, 0, none⟩) 1 1]) (fun u22 w21 => ∃ (a23 : Option Addr) (l23 c23 : Nat), u22 = .slice a23 l23 c23 ∧ (I9 a23 l23 c23 (IntKind.i64.wrap (n11 + 1)) w21
    ∧ m9 a23 l23 c23 (IntKind.i64.wrap (n11 + 1)) w21 < m9 a10 l10 c10 n11 w12)) w20) w12)) ∧ ((decide (n11 < ((l7 : Nat) : Int))) = false → R (.returned (.slice a10 l10 c10)) w12))))
theorem sx68.ok {g : Nat} {R : Ending → World → Prop} {w : World} (h : sx68 g R w) : CallsW Tryz.prog 68 [.map (some g)] w R :=
  callsW_of mix Tryz.func68 (by kernel_rfl) (by kernel_rfl) (Eq.mpr (by kernel_rfl : denFn Tryz.prog { sem := [18, 21], loops := [(3, { slots := [(3, .slice), (10, .int .i64)], cells := [] })] } Tryz.f68 [.map (some g)] R w = sx68 g R w) h)

/- reprise/fold.Add -/
def sx31 (kind : Int) (a : Option Addr) (a_n a_c : Nat) (b : Option Addr) (b_n b_c : Nat) (R : Ending → World → Prop) (w : World) : Prop :=
  CallsW Tryz.prog 65 [.int .i64 kind] w (RetR R fun u2 w1 => ∃ (b3 : Bool), u2 = .bool b3 ∧ (((!b3) = true → R (.returned (.tuple #[.slice none 0 0, .int .i64 1])) w1) ∧ ((!b3) = false → CallsW Tryz.prog 66 [.slice a a_n
    a_c] w1 (RetR R fun u6 w5 => ∃ (b7 : Bool), u6 = .bool b7 ∧ (((!b7) = true → R (.returned (.tuple #[.slice none 0 0, .int .i64 7])) w5) ∧ ((!b7) = false → CallsW Tryz.prog 66 [.slice b b_n b_c] w5 (RetR R fun u10 w9 =>
    ∃ (b11 : Bool), u10 = .bool b11 ∧ (((!b11) = true → R (.returned (.tuple #[.slice none 0 0, .int .i64 7])) w9) ∧ ((!b11) = false → SemW Tryz.prog (Instr.makeMap 150 none) (fun u14 w13 => ∃ (m15 : Option Nat), u14 =
    .map m15 ∧ ∀ (b16 : Nat) (w17 : World), Alloc w13 w17 b16 (.cells #[.slice a a_n a_c, .slice b b_n b_c] 46) → ∃ (I18 : Int → World → Prop) (m18 : Int → World → Nat), I18 0 w17 ∧ ∀ (n19 : Int) (w20 : World), I18 n19
    w20 → (((decide (n19 < ((2 : Nat) : Int))) = true → (0 ≤ n19 ∧ n19 < (2 : Nat)) ∧ ∃ (a21 : Option Addr) (l21 c21 : Nat), w20.cell? (Addr.add (⟨b16, 0, none⟩ : Addr) (n19.toNat * 1)) = some (.slice a21 l21 c21) ∧ ∃
    (I22 : Int → World → Prop) (m22 : Int → World → Nat), I22 0 w20 ∧ ∀ (n23 : Int) (w24 : World), I22 n23 w24 → (((decide (n23 < ((l21 : Nat) : Int))) = true → withSome a21 (fun d25 => (0 ≤ n23 ∧ n23 < (l21 : Nat)) ∧ ∃
    (n26 : Int) (b27 : Bool) (n28 : Int), CellsAt w24 (Addr.add d25 (n23.toNat * 3)) 0 [.int .u64 n26, .bool b27, .int .u64 n28] ∧ ∀ w29, Grew w24 w29 → ∀ w30, Grew w29 w30 → SemW Tryz.prog (Instr.lookup 150 (.map m15)
    (.int .u64 n26) false) (fun u32 w31 => ∃ (b33 : Bool) (n34 : Int), u32 = .agg #[.bool b33, .int .u64 n34] ∧ SameB w30 w31 [] ∧ CallsW Tryz.prog 67 [.int .i64 kind, .agg #[.bool b33, .int .u64 n34], .agg #[.bool b27,
    .int .u64 n28]] w31 (RetR R fun u36 w35 => ∃ (b37 : Bool) (n38 : Int), u36 = .agg #[.bool b37, .int .u64 n38] ∧ SameB w31 w35 [] ∧ SemW Tryz.prog (Instr.mapUpdate 150 (.map m15) (.int .u64 n26) (.agg #[.bool b37, .int
    .u64 n38])) (fun _ w40 => (I22 (IntKind.i64.wrap (n23 + 1)) w40 ∧ m22 (IntKind.i64.wrap (n23 + 1)) w40 < m22 n23 w24)) w35)) w30)) ∧ ((decide (n23 < ((l21 : Nat) : Int))) = false → (I18 (IntKind.i64.wrap (n19 + 1))
    w24 ∧ m18 (IntKind.i64.wrap (n19 + 1)) w24 < m18 n19 w20)))) ∧ ((decide (n19 < ((2 : Nat) : Int))) = false → CallsW Tryz.prog 68 [.map m15] w20 (RetR R fun u42 w41 => ∃ (a43 : Option Addr) (l43 c43 : Nat), u42 = .slice
    a43 l43 c43 ∧ R (.returned (.tuple #[.slice a43 l43 c43, .int .i64 0])) w41)))) w9)))))))))
theorem sx31.ok {kind : Int} {a : Option Addr} {a_n a_c : Nat} {b : Option Addr} {b_n b_c : Nat} {R : Ending → World → Prop} {w : World} (h : sx31 kind a a_n a_c b b_n b_c R w) : CallsW Tryz.prog 31 [.int .i64 kind, .slice a a_n a_c, .slice b b_n b_c] w R :=
  callsW_of mix Tryz.func31 (by kernel_rfl) (by kernel_rfl) (Eq.mpr (by kernel_rfl : denFn Tryz.prog { locals := [12], sem := [26, 48], draws := [(12, { order := (.cons 0 (.cons 1 (.cons 2 (.cons 3 (.cons 4 (.cons 5 (.cons 6 (.cons 8 (.cons 9 (.cons 7 (.cons 10 (.cons 11 .nil)))))))))))), bars := [11] })], loops := [(10, { slots := [(37, .int .i64)], cells := [] }), (1007, { slots := [(31, .int .i64)], cells := [] })] } Tryz.f31 [.int .i64 kind, .slice a a_n a_c, .slice b b_n b_c] R w = sx31 kind a a_n a_c b b_n b_c R w) h)

/- reprise/fold.Batch -/
def sx33 (list : Option Addr) (list_n list_c : Nat) (kind : Int) (recs : Option Addr) (recs_n recs_c : Nat) (R : Ending → World → Prop) (w : World) : Prop :=
  CallsW Tryz.prog 42 [.slice list list_n list_c] w (RetR R fun u2 w1 => ∃ (n3 : Int), u2 = .int .i64 n3 ∧ (((n3 != 0) = true → R (.returned (.tuple #[.slice none 0 0, .int .i64 0, .int .i64 n3])) w1) ∧ ((n3 != 0) = false →
    CallsW Tryz.prog 65 [.int .i64 kind] w1 (RetR R fun u6 w5 => ∃ (b7 : Bool), u6 = .bool b7 ∧ (((!b7) = true → R (.returned (.tuple #[.slice none 0 0, .int .i64 0, .int .i64 1])) w5) ∧ ((!b7) = false → SemW Tryz.prog
    (Instr.makeMap 150 none) (fun u10 w9 => ∃ (m11 : Option Nat), u10 = .map m11 ∧ ∃ (I12 : Int → Int → World → Prop) (m12 : Int → Int → World → Nat), I12 0 0 w9 ∧ ∀ (n13 : Int) (n14 : Int) (w15 : World), I12 n13 n14 w15
    → (((decide (n14 < ((recs_n : Nat) : Int))) = true → withSome recs (fun d16 => (0 ≤ n14 ∧ n14 < (recs_n : Nat)) ∧ ∃ (n17 : Int) (x18 : Nat), CellsAt w15 (Addr.add d16 (n14.toNat * 2)) 0 [.int .u64 n17, .float .f64
    x18] ∧ ∀ w19, Grew w15 w19 → CallsW Tryz.prog 72 [.slice list list_n list_c, .agg #[.int .u64 n17, .float .f64 x18]] w19 (RetR R fun u21 w20 => ∃ (n22 : Int) (x23 : Nat) (n24 : Int), u21 = .tuple #[.agg #[.int .u64
    n22, .float .f64 x23], .int .i64 n24] ∧ ∀ w26, Grew w20 w26 → (((n24 == 1) = true → ∀ w27, Grew w26 w27 → ((SemW Tryz.prog (Instr.lookup 150 (.map m11) (.int .u64 n22) false) (fun u29 w28 => ∃ (b30 : Bool) (n31 : Int),
    u29 = .agg #[.bool b30, .int .u64 n31] ∧ SameB w27 w28 [] ∧ CallsW Tryz.prog 73 [.int .i64 kind, .float .f64 x23] w28 (RetR R fun u33 w32 => ∃ (b34 : Bool) (n35 : Int), u33 = .agg #[.bool b34, .int .u64 n35] ∧ SameB
    w28 w32 [] ∧ CallsW Tryz.prog 67 [.int .i64 kind, .agg #[.bool b30, .int .u64 n31], .agg #[.bool b34, .int .u64 n35]] w32 (RetR R fun u38 w37 => ∃ (b39 : Bool) (n40 : Int), u38 = .agg #[.bool b39, .int .u64 n40] ∧
    SameB w32 w37 [] ∧ SemW Tryz.prog (Instr.mapUpdate 150 (.map m11) (.int .u64 n22) (.agg #[.bool b39, .int .u64 n40])) (fun _ w42 => (I12 n13 (IntKind.i64.wrap (n14 + 1)) w42 ∧ m12 n13 (IntKind.i64.wrap (n14 + 1)) w42 <
    m12 n13 n14 w15)) w37))) w27) ∧ (CallsW Tryz.prog 73 [.int .i64 kind, .float .f64 x23] w27 (RetR R fun u44 w43 => ∃ (b45 : Bool) (n46 : Int), u44 = .agg #[.bool b45, .int .u64 n46] ∧ SameB w27 w43 [] ∧ SemW Tryz.prog
    (Instr.lookup 150 (.map m11) (.int .u64 n22) false) (fun u49 w48 => ∃ (b50 : Bool) (n51 : Int), u49 = .agg #[.bool b50, .int .u64 n51] ∧ SameB w43 w48 [] ∧ CallsW Tryz.prog 67 [.int .i64 kind, .agg #[.bool b50, .int
    .u64 n51], .agg #[.bool b45, .int .u64 n46]] w48 (RetR R fun u53 w52 => ∃ (b54 : Bool) (n55 : Int), u53 = .agg #[.bool b54, .int .u64 n55] ∧ SameB w48 w52 [] ∧ SemW Tryz.prog (Instr.mapUpdate 150 (.map m11) (.int .u64
    n22) (.agg #[.bool b54, .int .u64 n55])) (fun _ w57 => (I12 n13 (IntKind.i64.wrap (n14 + 1)) w57 ∧ m12 n13 (IntKind.i64.wrap (n14 + 1)) w57 < m12 n13 n14 w15)) w52)) w43)))) ∧ ((n24 == 1) = false → (((n24 == 3) = true
    → (I12 (IntKind.i64.wrap (n13 + 1)) (IntKind.i64.wrap (n14 + 1)) w26 ∧ m12 (IntKind.i64.wrap (n13 + 1)) (IntKind.i64.wrap (n14 + 1)) w26 < m12 n13 n14 w15)) ∧ ((n24 == 3) = false → (I12 n13 (IntKind.i64.wrap (n14 +
    1)) w26 ∧ m12 n13 (IntKind.i64.wrap (n14 + 1)) w26 < m12 n13 n14 w15)))))))) ∧ ((decide (n14 < ((recs_n : Nat) : Int))) = false → CallsW Tryz.prog 68 [.map m11] w15 (RetR R fun u59 w58 => ∃ (a60 : Option Addr) (l60 c60
    : Nat), u59 = .slice a60 l60 c60 ∧ R (.returned (.tuple #[.slice a60 l60 c60, .int .i64 n13, .int .i64 0])) w58)))) w5))))))
theorem sx33.ok {list : Option Addr} {list_n list_c : Nat} {kind : Int} {recs : Option Addr} {recs_n recs_c : Nat} {R : Ending → World → Prop} {w : World} (h : sx33 list list_n list_c kind recs recs_n recs_c R w) : CallsW Tryz.prog 33 [.slice list list_n list_c, .int .i64 kind, .slice recs recs_n recs_c] w R :=
  callsW_of mix Tryz.func33 (by kernel_rfl) (by kernel_rfl) (Eq.mpr (by kernel_rfl : denFn Tryz.prog { locals := [13, 14], sem := [24, 47], draws := [(13, { order := (.cons 0 (.cons 1 (.cons 2 (.cons 3 (.cons 4 (.cons 5 (.cons 6 (.cons 8 (.cons 9 (.cons 10 (.alt (.cons 7 (.cons 11 (.cons 12 (.cons 13 .nil)))) (.cons 11 (.cons 7 (.cons 12 (.cons 13 .nil))))))))))))))), bars := [13] })], loops := [(8, { slots := [(11, .int .i64), (27, .int .i64)], cells := [] })] } Tryz.f33 [.slice list list_n list_c, .int .i64 kind, .slice recs recs_n recs_c] R w = sx33 list list_n list_c kind recs recs_n recs_c R w) h)


theorem pair_cells {w : World} {d : Addr} {x : PairV} {k : Nat} (h : CellsAt w (d.add (k * Enc.pair.sz)) 0 (Enc.pair.f x)) : CellsAt w (Addr.add d (((k : Nat) : Int).toNat * 3)) 0 [.int .u64 x.key, .bool x.has, .int .u64 x.bits] ∧ w.cell? (Addr.add d (((k : Nat) : Int).toNat * 3)) = some (.int .u64 x.key) := by
  refine ⟨h, ?_⟩
  have := cellsAt_get h 0 _ rfl
  simpa [Enc.pair, Addr.add_zero'] using this
theorem rise_snoc {t : List PairV} {y x : PairV} (h : ((t ++ [y]).map (·.key)).Pairwise (· < ·)) (hx : y.key < x.key) : ((t ++ [y] ++ [x]).map (·.key)).Pairwise (· < ·) := by
  rw [List.map_append, List.pairwise_append]
  refine ⟨h, by simp, fun a ha b hb => ?_⟩
  simp at hb; subst hb
  rw [List.map_append, List.mem_append] at ha
  rcases ha with ha | ha
  · rw [List.map_append, List.pairwise_append] at h
    have := h.2.2 a ha y.key (by simp)
    omega
  · simp at ha; omega
theorem soundB_take {l : List PairV} (h : soundB l = true) : (∀ x ∈ l, x.has = true) ∧ (l.map (·.key)).Pairwise (· < ·) := by
  unfold soundB at h; simpa using h

theorem Sound_ok {a : Option Addr} {n c : Nat} {l : List PairV} {w : World} (hr : Reads w Enc.pair (a, n, c) l) (hl : l.length ≤ maxLen) : CallsW Tryz.prog 66 [.slice a n c] w (Rets fun v w' => v = .bool (soundB l) ∧ Grew w w') := by
  refine sx66.ok ?_
  unfold sx66
  have hn : n = l.length := hr.2.1
  subst hn
  simp only [maxLen] at hl
  refine ⟨fun i w' => ∃ k : Nat, i = k ∧ k ≤ l.length ∧ (∀ x ∈ l.take k, x.has = true) ∧ ((l.take k).map (·.key)).Pairwise (· < ·) ∧ Grew w w', fun i _ => l.length - i.toNat, ⟨0, rfl, Nat.zero_le _, by simp, by simp, Grew.refl _⟩, ?_⟩
  rintro i w3 ⟨k, rfl, hk, h1, h2, hg3⟩
  refine ⟨fun hlt => ?_, fun hge => ?_⟩
  · simp only [decide_eq_true_eq] at hlt
    obtain ⟨d, x, rfl, hx, hc⟩ := (hr.grew hg3).at0 (k := k) (by omega)
    obtain ⟨c1, c2⟩ := pair_cells hc
    have hw : IntKind.i64.wrap ((k : Int) + 1) = ((k + 1 : Nat) : Int) := by rw [IntKind.wrap_i64]; omega
    have dec : l.length - (((k + 1 : Nat) : Int)).toNat < l.length - ((k : Int)).toNat := by omega
    have has1 : x.has = true → ∀ y ∈ l.take (k + 1), y.has = true := fun hh y hy => by
      rw [take_snoc hx, List.mem_append] at hy
      rcases hy with hy | hy
      · exact h1 y hy
      · simp at hy; rw [hy]; exact hh
    refine ⟨⟨by omega, by omega⟩, _, _, _, c1, fun w8 hg8 => ⟨fun hb w9 hg9 => ?_, fun hb => ⟨fun h0 => ?_, fun h0 w13 hg13 => ?_⟩⟩⟩
    · have hb : x.has = false := by simpa using hb
      refine ⟨_, rfl, ?_, hg3.trans (hg8.trans hg9)⟩
      congr 1; symm
      apply Bool.eq_false_iff.2
      intro h
      have := (soundB_take h).1 x (List.mem_of_getElem? hx)
      rw [hb] at this; cases this
    · have hb : x.has = true := by simpa using hb
      simp only [decide_eq_true_eq, gt_iff_lt] at h0
      have hwm : IntKind.i64.wrap ((k : Int) - 1) = ((k - 1 : Nat) : Int) := by rw [IntKind.wrap_i64]; omega
      have hg8' := hg3.trans hg8
      obtain ⟨d', y, hd', hy, hyc⟩ := (hr.grew hg8').at0 (k := k - 1) (by omega)
      cases hd'
      obtain ⟨-, y2⟩ := pair_cells hyc
      rw [hwm, hw]
      refine ⟨⟨by omega, by omega⟩, y.key, y2, fun w12 hg12 => ⟨fun hle => ?_, fun hgt => ⟨⟨k + 1, rfl, by omega, has1 hb, ?_, hg8'.trans hg12⟩, dec⟩⟩⟩
      · simp only [decide_eq_true_eq] at hle
        refine ⟨_, rfl, ?_, hg8'.trans hg12⟩
        congr 1; symm
        apply Bool.eq_false_iff.2
        intro h
        have hp := (soundB_take h).2
        have e1 : (l.map (·.key))[k - 1]? = some y.key := by rw [List.getElem?_map, hy]; rfl
        have e2 : (l.map (·.key))[k]? = some x.key := by rw [List.getElem?_map, hx]; rfl
        obtain ⟨i1, e1⟩ := List.getElem?_eq_some_iff.1 e1
        obtain ⟨i2, e2⟩ := List.getElem?_eq_some_iff.1 e2
        have := (List.pairwise_iff_getElem.1 hp) (k - 1) k i1 i2 (by omega)
        rw [e1, e2] at this; omega
      · simp only [decide_eq_false_iff_not] at hgt
        have et : l.take k = l.take (k - 1) ++ [y] := by
          have := take_snoc hy
          rwa [show k - 1 + 1 = k from by omega] at this
        rw [take_snoc hx, et]
        rw [et] at h2
        exact rise_snoc h2 (by omega)
    · have hb : x.has = true := by simpa using hb
      simp only [decide_eq_false_iff_not, gt_iff_lt] at h0
      have hk0 : k = 0 := by omega
      subst hk0
      rw [hw]
      exact ⟨⟨1, rfl, by omega, has1 hb, by rw [take_snoc hx]; simp, hg3.trans (hg8.trans hg13)⟩, dec⟩
  · simp only [decide_eq_false_iff_not] at hge
    rw [List.take_of_length_le (by omega)] at h1 h2
    refine ⟨_, rfl, ?_, hg3⟩
    congr 1; symm
    unfold soundB; rw [decide_eq_true_eq]; exact ⟨h1, h2⟩
theorem FKeys_ok {a : Option Addr} {n c : Nat} {l : List PairV} {w : World} (hr : Reads w Enc.pair (a, n, c) l) (hl : l.length ≤ maxLen) (hb : l.length * 24 ≤ 140737488355328) : CallsW Tryz.prog 30 [.slice a n c] w (Rets (Fresh w 40 (Enc.int .u64) (l.map (·.key)))) := by
  refine sx30.ok ?_
  unfold sx30
  have hn : n = l.length := hr.2.1
  subst hn
  have hl' := hl
  simp only [maxLen] at hl'
  refine make_own (e := 40) (E := Enc.int .u64) (x := 0) (z := .int .u64 0) (bytes := 8) (by kernel_rfl) (by kernel_rfl) rfl (by omega) hl ?_
  rintro v w1 ⟨a3, l3, c3, rfl, ho, hg1⟩
  have hl3 : l3 = l.length := by rw [ho.len]; simp
  subst hl3
  refine ⟨_, _, _, rfl, fun i w' => ∃ k : Nat, i = k ∧ k ≤ l.length ∧ Own w' w.heap.size 40 (Enc.int .u64) a3 l.length c3 ((l.take k).map (·.key) ++ List.replicate (l.length - k) 0) ∧ Grew w w', fun i _ => l.length - i.toNat, ⟨0, rfl, Nat.zero_le _, by simpa using ho, hg1⟩, ?_⟩
  rintro i w6 ⟨k, rfl, hk, ho6, hg6⟩
  refine ⟨fun hlt => ?_, fun hge => ?_⟩
  · simp only [decide_eq_true_eq] at hlt
    obtain ⟨d, x, rfl, hx, hc⟩ := (hr.grew hg6).at0 (k := k) (by omega)
    obtain ⟨c1, c2⟩ := pair_cells hc
    have hw : IntKind.i64.wrap ((k : Int) + 1) = ((k + 1 : Nat) : Int) := by rw [IntKind.wrap_i64]; omega
    rw [hw]
    refine ⟨⟨by omega, by omega⟩, _, _, _, c1, fun w11 hg11 => ?_⟩
    have ho11 := ho6.grew hg11
    have hrep : List.replicate (l.length - k) (0 : Int) = 0 :: List.replicate (l.length - (k + 1)) 0 := by
      rw [show l.length - k = (l.length - (k + 1)) + 1 from by omega, List.replicate_succ]
    rw [hrep] at ho11
    have hlen : ((l.take k).map (·.key)).length = k := by simp; omega
    obtain ⟨g, hg, hR, hO, hU⟩ := ho11.set1 (i := k) (x := 0) (x' := x.key) (v := .int .u64 x.key) (j := 0) (by rw [List.getElem?_append_right (by omega)]; simp [hlen, show k - min k l.length = 0 from by omega]) (by decide) (by simp [Enc.int])
    have e : k * (Enc.int .u64).sz + 0 = k := by simp [Enc.int]
    rw [e] at hR hO hU
    rw [hg, withSome]
    simp only [add_mk, Nat.mul_one, Nat.zero_add, Int.toNat_natCast]
    refine ⟨⟨by omega, by omega⟩, hR, ?_⟩
    rintro w13 rfl
    refine ⟨⟨k + 1, rfl, by omega, ?_, (hg6.trans hg11).then_own hU fun b hb => ?_⟩, by omega⟩
    · rw [List.set_append_right _ _ (by omega), hlen, Nat.sub_self, List.set_cons_zero] at hO
      rw [take_snoc hx, List.map_append, List.append_assoc]
      rw [hg] at hO
      exact hO
    · exact (ho11.blk ⟨_, hg, hb.symm⟩).1
  · simp only [decide_eq_false_iff_not] at hge
    have hkl : k = l.length := by omega
    subst hkl
    rw [List.take_length, Nat.sub_self, List.replicate_zero, List.append_nil] at ho6
    exact ⟨_, rfl, _, _, _, rfl, ho6, hg6⟩

theorem elPair : ElemOk Tryz.prog 46 83 Enc.pair.sz 24 := ElemOk.mk' (z := .agg #[.int .u64 0, .bool false, .int .u64 0]) (by kernel_rfl) (by kernel_rfl) (by kernel_rfl)
theorem zVal : ∀ w, (zeroValue 81).run Tryz.prog w = .ok val0.v w := zero_runS (by kernel_rfl)
theorem uGath : Tryz.prog.underlying 150 = some (.map 40 81) := by kernel_rfl
theorem uU64F : Tryz.prog.underlying 40 = some (.int .u64) := by kernel_rfl
def TabFits (m : Tab) : Prop := ∀ x ∈ m, (0 ≤ x.1 ∧ x.1 < u64m) ∧ x.2.Fits
theorem tableT_len (m : Tab) : (tableT m).length = m.length := by unfold tableT; rw [List.length_map, (sortL_perm _).length_eq, List.length_map]

theorem map_lookupV {t k e : TypeId} {w : World} {b : Nat} {m : Tab} {key : Int} {K : Value → World → Prop} (ht : Tryz.prog.underlying t = some (.map k e)) (hkt : Tryz.prog.underlying k = some (.int .u64)) (hz : ∀ w, (zeroValue e).run Tryz.prog w = .ok val0.v w) (h : MapIs w b .u64 ValV.v m)
    (hk : K ((getM m key).getD val0).v w) : SemW Tryz.prog (Instr.lookup t (.map (some b)) (.int .u64 key) false) K w := by
  refine map_lookup (F := ValV.v) (z := val0.v) ht hkt hz h ?_
  revert hk
  cases getM m key <;> exact id
theorem table_ok {b : Nat} {m : Tab} {w : World} (h : MapIs w b .u64 ValV.v m) (hb : m.length * 24 ≤ 140737488355328) :
    CallsW Tryz.prog 68 [.map (some b)] w (Rets (Fresh w 83 Enc.pair (tableT m))) := by
  refine sx68.ok ?_
  unfold sx68
  refine Keys_F_ok.use fun u w1 ⟨g, hv, hal⟩ => ?_
  subst hv
  have h1 := h.grew hal.grew
  have hc1 : w1.cell? ⟨g, 0, none⟩ = some (.map (some b)) := by rw [cell_row hal.at_]; rfl
  refine ⟨_, rfl, (Sorted_F_ok hc1 h1 (by omega)).use fun u w5 ⟨a7, l7, c7, hv, ho5, hg5⟩ => ?_⟩
  subst hv
  have hl7 : l7 = m.length := by rw [ho5.len, (sortL_perm _).length_eq, List.length_map]
  subst hl7
  have hg5' := hal.grew.trans hg5
  refine ⟨_, _, _, rfl, fun a l c i w' => ∃ k : Nat, i = k ∧ k ≤ m.length ∧ Own w' w5.heap.size 83 Enc.pair a l c ((tableT m).take k) ∧ Grew w5 w', fun _ _ _ i _ => m.length - i.toNat, ⟨0, rfl, Nat.zero_le _, Own.nil _ _ _ _, Grew.refl _⟩, ?_⟩
  rintro a10 l10 c10 i w12 ⟨k, rfl, hk, ho12, hg12⟩
  refine ⟨fun hlt => ?_, fun hge => ?_⟩
  · simp only [decide_eq_true_eq] at hlt
    obtain ⟨d, key, hd, hkey, hc⟩ := (ho5.grew hg12).reads.at0 (k := k) (by omega)
    have hcell : w12.cell? (Addr.add d (((k : Nat) : Int).toNat * 1)) = some (.int .u64 key) := by
      have := cellsAt_get hc 0 _ rfl
      simpa [Enc.int, Addr.add_zero'] using this
    rw [hd, withSome]
    have hw : IntKind.i64.wrap ((k : Int) + 1) = ((k + 1 : Nat) : Int) := by rw [IntKind.wrap_i64]; omega
    rw [hw]
    refine ⟨⟨by omega, by omega⟩, key, hcell, ?_⟩
    refine map_lookupV uGath uU64F zVal ((h.grew hg5').grew hg12) ?_
    refine ⟨_, _, rfl, fun b19 w20 hal20 => ?_⟩
    have hx : (tableT m)[k]? = some (pairOf key ((getM m key).getD val0)) := by unfold tableT; rw [List.getElem?_map, hkey]; rfl
    have hlk : ((tableT m).take k).length ≤ m.length := by rw [List.length_take, tableT_len]; omega
    have hlk2 : ((tableT m).take k).length = k := by rw [List.length_take, tableT_len]; omega
    refine append_new (l2 := [pairOf key ((getM m key).getD val0)]) elPair ho12 hal20 rfl rfl hg12.size (by simp only [maxLen, List.length_singleton]; omega) (by simp only [List.length_singleton]; omega) ?_
    rintro v22 w21 ⟨a23, l23, c23, rfl, ho21, hu21, hb21⟩
    rw [← take_snoc hx] at ho21
    refine ⟨_, _, _, rfl, ⟨k + 1, rfl, by omega, ho21, ?_⟩, by show m.length - (((k + 1 : Nat) : Int)).toNat < m.length - ((k : Int)).toNat; omega⟩
    exact hg12.then_own hu21 fun b hb => (ho12.blk hb).1
  · simp only [decide_eq_false_iff_not] at hge
    rw [List.take_of_length_le (by rw [tableT_len]; omega)] at ho12
    exact ⟨_, rfl, _, _, _, rfl, ho12.base hg5'.size, hg5'.trans hg12⟩

theorem getM_fits {m : Tab} (h : TabFits m) (k : Int) : ((getM m k).getD val0).Fits := by
  cases hg : getM m k with
  | none => exact ⟨by decide, by decide⟩
  | some v =>
    unfold getM at hg
    rw [Option.map_eq_some_iff] at hg
    obtain ⟨x, hx, rfl⟩ := hg
    exact (h x (List.mem_of_find?_eq_some hx)).2
theorem setM_fits {m : Tab} (h : TabFits m) {k : Int} {v : ValV} (hk : 0 ≤ k ∧ k < u64m) (hv : v.Fits) : TabFits (setM m k v) := by
  intro x hx
  unfold setM at hx
  split at hx
  · obtain ⟨y, hy, rfl⟩ := List.mem_map.1 hx
    split
    · exact ⟨hk, hv⟩
    · exact h y hy
  · rcases List.mem_append.1 hx with hx | hx
    · exact h x hx
    · simp at hx; subst hx; exact ⟨hk, hv⟩
theorem setM_len {m : Tab} {k : Int} {v : ValV} : (setM m k v).length ≤ m.length + 1 := by
  unfold setM; split <;> simp
theorem key_wf {k : Int} (h : 0 ≤ k ∧ k < u64m) : (Lit.int .u64 k).wf = true := by
  simp only [u64m] at h
  simp [Lit.wf, IntKind.min, IntKind.max, IntKind.signed, IntKind.bits]; omega

def batchOne (list : List OpV) (kind : Int) (m : Tab × Int) (r : RecV) : Tab × Int := if (runB list r).2 = 1 then (putT kind m.1 (runB list r).1.key (ofV kind (runB list r).1.val), m.2) else if (runB list r).2 = 3 then (m.1, IntKind.i64.wrap (m.2 + 1)) else m
def batchAll (list : List OpV) (kind : Int) (rs : List RecV) : Tab × Int := rs.foldl (batchOne list kind) ([], 0)
theorem batchAll_snoc {list : List OpV} {kind : Int} {rs : List RecV} {r : RecV} : batchAll list kind (rs ++ [r]) = batchOne list kind (batchAll list kind rs) r := by unfold batchAll; rw [List.foldl_append]; rfl

set_option maxHeartbeats 1000000 in
theorem Batch_ok {a b : Option Addr} {n c m k : Nat} {l : List OpV} {rs : List RecV} {kind : Int} {w : World} (hr : Reads w Enc.op3 (a, n, c) l) (hl : ∀ o ∈ l, o.Fits) (hi : Reads w Enc.rcd (b, m, k) rs) (hf : ∀ x ∈ rs, x.Fits) (hs : rs.length * 24 ≤ 140737488355328) :
    CallsW Tryz.prog 33 [.slice a n c, .int .i64 kind, .slice b m k] w (Rets fun u w' => ∃ a' n' c', u = .tuple #[.slice a' n' c', .int .i64 (if checkB l ∧ knownB kind then (batchAll l kind rs).2 else 0), .int .i64 (if checkB l then if knownB kind then 0 else 1 else 30)] ∧ Own w' w.heap.size 83 Enc.pair a' n' c' (if checkB l ∧ knownB kind then tableT (batchAll l kind rs).1 else []) ∧ Grew w w') := by
  refine sx33.ok ?_
  unfold sx33
  have hm : m = rs.length := hi.2.1
  subst hm
  have nb : ∀ {x y : World}, SameB x y [] := by intro x y; simp [SameB]
  refine (Check_ok hr).use fun u w1 ⟨hv, hg1⟩ => ?_
  subst hv
  cases hc : checkB l
  · refine ⟨_, rfl, fun _ => ⟨_, rfl, none, 0, 0, by simp, by simpa using Own.nil _ _ _ _, hg1⟩, fun h => (by simp at h)⟩
  refine ⟨_, rfl, fun h => (by simp at h), fun _ => Known_ok.use fun u w5 ⟨hv, hw⟩ => ?_⟩
  subst hv; subst hw
  cases hk : knownB kind
  · refine ⟨_, rfl, fun _ => ⟨_, rfl, none, 0, 0, by simp, by simpa using Own.nil _ _ _ _, hg1⟩, fun h => (by simp at h)⟩
  refine ⟨_, rfl, fun h => (by simp at h), fun _ => make_map fun mb w9 hal9 => ⟨_, rfl, ?_⟩⟩
  have hg9 := hg1.trans hal9.grew
  have hmb : w.heap.size ≤ mb := Nat.le_trans hg1.size hal9.new
  have up : ∀ {y z : World}, Upd (fun b => b = mb) y z → Grew w y → Grew w z := fun hu hg => hg.then_own hu fun b hb => by rw [hb]; exact hmb
  refine ⟨fun t i w' => ∃ j : Nat, i = j ∧ j ≤ rs.length ∧ t = (batchAll l kind (rs.take j)).2 ∧ MapIs w' mb .u64 ValV.v (batchAll l kind (rs.take j)).1 ∧ TabFits (batchAll l kind (rs.take j)).1 ∧ (batchAll l kind (rs.take j)).1.length ≤ j ∧ Grew w w', fun _ i _ => rs.length - i.toNat, ⟨0, rfl, Nat.zero_le _, rfl, MapIs.empty hal9, by intro x hx; simp [batchAll] at hx, by simp [batchAll], hg9⟩, ?_⟩
  rintro t i w15 ⟨j, rfl, hj, rfl, hM, hTF, hML, hg15⟩
  refine ⟨fun hlt => ?_, fun hge => ?_⟩
  · simp only [decide_eq_true_eq] at hlt
    obtain ⟨d, r, rfl, hrj, hcc⟩ := (hi.grew hg15).at0 (k := j) (by omega)
    have hrf := hf r (List.mem_of_getElem? hrj)
    have hw : IntKind.i64.wrap ((j : Int) + 1) = ((j + 1 : Nat) : Int) := by rw [IntKind.wrap_i64]; omega
    have dec : rs.length - (((j + 1 : Nat) : Int)).toNat < rs.length - ((j : Int)).toNat := by omega
    have hstep : batchAll l kind (rs.take (j + 1)) = batchOne l kind (batchAll l kind (rs.take j)) r := by rw [take_snoc hrj, batchAll_snoc]
    have hcell : CellsAt w15 (Addr.add d (((j : Nat) : Int).toNat * 2)) 0 [.int .u64 r.key, .float .f64 r.val] := hcc
    refine ⟨⟨by omega, by omega⟩, _, _, hcell, fun w19 hg19 => ?_⟩
    have hg19 := hg15.trans hg19
    refine (Run_ok (hr.grew hg19) hl hrf).use fun u w20 ⟨hv, hg20⟩ => ?_
    subst hv
    have hg20 := hg19.trans hg20
    have hR := runB_fits hl hrf
    refine ⟨_, _, _, rfl, fun w26 hg26 => ?_⟩
    have hg26 := hg20.trans hg26
    have hg1526 : Grew w15 w26 := by
      have h1 : Grew w15 w19 := by assumption
      have h2 : Grew w19 w20 := by assumption
      have h3 : Grew w20 w26 := by assumption
      exact h1.trans (h2.trans h3)
    have hM26 := hM.grew hg1526
    rw [hw]
    generalize hX : batchAll l kind (rs.take j) = X at hM hTF hML hstep hM26
    generalize hout : (runB l r).1 = out at hR
    refine ⟨fun h1 w27 hg27 => ?_, fun h1 => ⟨fun h3 => ⟨⟨j + 1, rfl, by omega, ?_, ?_, ?_, ?_, hg26⟩, dec⟩, fun h3 => ⟨⟨j + 1, rfl, by omega, ?_, ?_, ?_, ?_, hg26⟩, dec⟩⟩⟩
    all_goals simp only [beq_iff_eq, beq_eq_false_iff_ne, ne_eq] at *
    · have hnew : batchAll l kind (rs.take (j + 1)) = (putT kind X.1 out.key (ofV kind out.val), X.2) := by rw [hstep]; unfold batchOne; rw [if_pos h1, hout]
      have hM27 := hM26.grew hg27
      have hg27' := hg26.trans hg27
      have hzf := getM_fits hTF out.key
      have hof := ofV_fits (kind := kind) hR.2
      have fin : ∀ w', MapIs w' mb .u64 ValV.v (setM X.1 out.key (mergeV kind ((getM X.1 out.key).getD val0) (ofV kind out.val))) → Grew w w' →
          (∃ j' : Nat, (((j + 1 : Nat) : Int)) = j' ∧ j' ≤ rs.length ∧ X.2 = (batchAll l kind (rs.take j')).2 ∧ MapIs w' mb .u64 ValV.v (batchAll l kind (rs.take j')).1 ∧ TabFits (batchAll l kind (rs.take j')).1 ∧ (batchAll l kind (rs.take j')).1.length ≤ j' ∧ Grew w w') := by
        intro w' hm' hg'
        refine ⟨j + 1, rfl, by omega, by rw [hnew], by rw [hnew]; exact hm', by rw [hnew]; exact setM_fits hTF hR.1 (mergeV_fits hzf hof), ?_, hg'⟩
        rw [hnew]
        have := setM_len (m := X.1) (k := out.key) (v := mergeV kind ((getM X.1 out.key).getD val0) (ofV kind out.val))
        show (setM X.1 out.key (mergeV kind ((getM X.1 out.key).getD val0) (ofV kind out.val))).length ≤ j + 1
        omega
      refine ⟨map_lookupV uGath uU64F zVal hM27 ⟨_, _, rfl, nb, (Of_okV hR.2).use fun u w32 ⟨hv, hg32⟩ => ?_⟩, (Of_okV hR.2).use fun u w43 ⟨hv, hg43⟩ => ?_⟩
      · subst hv
        refine ⟨_, _, rfl, nb, (Merge_ok (kind := kind) hzf hof).use fun u w37 ⟨hv, hg37⟩ => ?_⟩
        subst hv
        have hg2737 := hg32.trans hg37
        refine ⟨_, _, rfl, nb, map_update (F := ValV.v) (x := mergeV kind ((getM X.1 out.key).getD val0) (ofV kind out.val)) uGath uU64F (hM27.grew hg2737) (key_wf hR.1) fun w' hm' hu' => ?_⟩
        exact ⟨fin w' hm' (up hu' (hg27'.trans hg2737)), dec⟩
      · subst hv
        refine ⟨_, _, rfl, nb, map_lookupV uGath uU64F zVal (hM27.grew hg43) ⟨_, _, rfl, nb, (Merge_ok (kind := kind) hzf hof).use fun u w52 ⟨hv, hg52⟩ => ?_⟩⟩
        subst hv
        have hg2752 := hg43.trans hg52
        refine ⟨_, _, rfl, nb, map_update (F := ValV.v) (x := mergeV kind ((getM X.1 out.key).getD val0) (ofV kind out.val)) uGath uU64F (hM27.grew hg2752) (key_wf hR.1) fun w' hm' hu' => ?_⟩
        exact ⟨fin w' hm' (up hu' (hg27'.trans hg2752)), dec⟩
    · rw [hstep]; unfold batchOne; rw [if_neg h1, if_pos h3]
    · rw [hstep]; unfold batchOne; rw [if_neg h1, if_pos h3]; exact hM26
    · rw [hstep]; unfold batchOne; rw [if_neg h1, if_pos h3]; exact hTF
    · rw [hstep]; unfold batchOne; rw [if_neg h1, if_pos h3]; show X.1.length ≤ j + 1; omega
    · rw [hstep]; unfold batchOne; rw [if_neg h1, if_neg h3]
    · rw [hstep]; unfold batchOne; rw [if_neg h1, if_neg h3]; exact hM26
    · rw [hstep]; unfold batchOne; rw [if_neg h1, if_neg h3]; exact hTF
    · rw [hstep]; unfold batchOne; rw [if_neg h1, if_neg h3]; omega
  · simp only [decide_eq_false_iff_not] at hge
    rw [List.take_of_length_le (by omega)] at hM hTF hML ⊢
    refine (table_ok hM (by omega)).use fun u w58 ⟨a60, l60, c60, hv, ho58, hg58⟩ => ?_
    subst hv
    refine ⟨_, _, _, rfl, _, rfl, a60, l60, c60, by simp, ?_, hg15.trans hg58⟩
    have := ho58.base hg15.size
    simpa using this
end Go.Proofs.YtcpkneemhfnanaaGreat
