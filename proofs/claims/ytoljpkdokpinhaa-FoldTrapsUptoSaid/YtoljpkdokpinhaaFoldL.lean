/- The law's helpers over tables. Conditions: none. -/
import Derived.Test.YtoljpkdokpinhaaProg
import Derived.Test.YtoljpkdokpinhaaFoldA
namespace Go.Proofs.Ytoljpkdokpinhaa
open Go.Sx
set_option maxRecDepth 100000
set_option linter.unusedVariables false
set_option linter.unusedSimpArgs false
/- reprise/repriselaw05.same -/
def sx15 (a : Option Addr) (a_n a_c : Nat) (b : Option Addr) (b_n b_c : Nat) (R : Ending → World → Prop) (w : World) : Prop :=
  (((((a_n : Nat) : Int) != ((b_n : Nat) : Int)) = true → R (.returned (.bool false)) w) ∧ ((((a_n : Nat) : Int) != ((b_n : Nat) : Int)) = false → ∃ (I1 : Int → World → Prop) (m1 : Int → World → Nat), I1 0 w ∧ ∀ (n2 : Int)
    (w3 : World), I1 n2 w3 → (((decide (n2 < ((a_n : Nat) : Int))) = true → withSome a (fun d4 => (0 ≤ n2 ∧ n2 < (a_n : Nat)) ∧ ∃ (n5 : Int) (b6 : Bool) (n7 : Int), CellsAt w3 (Addr.add d4 (n2.toNat * 3)) 0 [.int .u64 n5,
    .bool b6, .int .u64 n7] ∧ withSome b (fun d8 => (0 ≤ n2 ∧ n2 < (b_n : Nat)) ∧ ∃ (n9 : Int) (b10 : Bool) (n11 : Int), CellsAt w3 (Addr.add d8 (n2.toNat * 3)) 0 [.int .u64 n9, .bool b10, .int .u64 n11] ∧ ∃ (b12 : Bool),
    PureTo Try.prog (eqS .neq 38 (.tmp 20) (.tmp 24) (.agg #[.int .u64 n5, .bool b6, .int .u64 n7]) (.agg #[.int .u64 n9, .bool b10, .int .u64 n11])) (.bool b12) ∧ ∀ w13, Grew w3 w13 → ((b12 = true → R (.returned (.bool
    false)) w13) ∧ (b12 = false → (I1 (IntKind.i64.wrap (n2 + 1)) w13 ∧ m1 (IntKind.i64.wrap (n2 + 1)) w13 < m1 n2 w3)))))) ∧ ((decide (n2 < ((a_n : Nat) : Int))) = false → R (.returned (.bool true)) w3))))
theorem sx15.ok {a : Option Addr} {a_n a_c : Nat} {b : Option Addr} {b_n b_c : Nat} {R : Ending → World → Prop} {w : World} (h : sx15 a a_n a_c b b_n b_c R w) : CallsW Try.prog 15 [.slice a a_n a_c, .slice b b_n b_c] w R :=
  callsW_of mix Try.func15 (by kernel_rfl) (by kernel_rfl) (Eq.mpr (by kernel_rfl : denFn Try.prog { pureTo := [25], loops := [(4, { slots := [(5, .int .i64)], cells := [] })] } Try.f15 [.slice a a_n a_c, .slice b b_n b_c] R w = sx15 a a_n a_c b b_n b_c R w) h)

/- reprise/repriselaw05.keys -/
def sx16 (a : Option Addr) (a_n a_c : Nat) (b : Option Addr) (b_n b_c : Nat) (R : Ending → World → Prop) (w : World) : Prop :=
  (((((a_n : Nat) : Int) != ((b_n : Nat) : Int)) = true → R (.returned (.bool false)) w) ∧ ((((a_n : Nat) : Int) != ((b_n : Nat) : Int)) = false → ∃ (I1 : Int → World → Prop) (m1 : Int → World → Nat), I1 0 w ∧ ∀ (n2 : Int)
    (w3 : World), I1 n2 w3 → (((decide (n2 < ((a_n : Nat) : Int))) = true → withSome a (fun d4 => (0 ≤ n2 ∧ n2 < (a_n : Nat)) ∧ ∃ (n5 : Int), w3.cell? (Addr.add d4 (n2.toNat * 1)) = some (.int .u64 n5) ∧ withSome b (fun
    d6 => (0 ≤ n2 ∧ n2 < (b_n : Nat)) ∧ ∃ (n7 : Int), w3.cell? (Addr.add d6 (n2.toNat * 1)) = some (.int .u64 n7) ∧ ∀ w8, Grew w3 w8 → (((n5 != n7) = true → R (.returned (.bool false)) w8) ∧ ((n5 != n7) = false → (I1
    (IntKind.i64.wrap (n2 + 1)) w8 ∧ m1 (IntKind.i64.wrap (n2 + 1)) w8 < m1 n2 w3)))))) ∧ ((decide (n2 < ((a_n : Nat) : Int))) = false → R (.returned (.bool true)) w3))))
theorem sx16.ok {a : Option Addr} {a_n a_c : Nat} {b : Option Addr} {b_n b_c : Nat} {R : Ending → World → Prop} {w : World} (h : sx16 a a_n a_c b b_n b_c R w) : CallsW Try.prog 16 [.slice a a_n a_c, .slice b b_n b_c] w R :=
  callsW_of mix Try.func16 (by kernel_rfl) (by kernel_rfl) (Eq.mpr (by kernel_rfl : denFn Try.prog { loops := [(4, { slots := [(5, .int .i64)], cells := [] })] } Try.f16 [.slice a a_n a_c, .slice b b_n b_c] R w = sx16 a a_n a_c b b_n b_c R w) h)

/- reprise/repriselaw05.pair -/
def sx28 (key : Int) (bits : Int) (R : Ending → World → Prop) (w : World) : Prop :=
  ∀ w1, Grew w w1 → R (.returned (.agg #[.int .u64 key, .bool true, .int .u64 bits])) w1
theorem sx28.ok {key : Int} {bits : Int} {R : Ending → World → Prop} {w : World} (h : sx28 key bits R w) : CallsW Try.prog 28 [.int .u64 key, .int .u64 bits] w R :=
  callsW_of mix Try.func28 (by kernel_rfl) (by kernel_rfl) (Eq.mpr (by kernel_rfl : denFn Try.prog { locals := [4] } Try.f28 [.int .u64 key, .int .u64 bits] R w = sx28 key bits R w) h)

/- reprise/repriselaw05.awake -/
def sx10  (R : Ending → World → Prop) (w : World) : Prop :=
  ∀ (b1 : Nat) (w2 : World), Alloc w w2 b1 (.cells #[.int .i64 9, .int .i64 0, .float .f64 0] 59) → ∀ (b3 : Nat) (w4 : World), Alloc w2 w4 b3 (.cells #[.int .u64 5, .float .f64 4607182418800017408, .int .u64 2, .float .f64
    4613937818241073152, .int .u64 5, .float .f64 0] 52) → CallsW Try.prog 22 [.slice (some ⟨b1, 0, none⟩) 1 1, .int .i64 1, .slice (some ⟨b3, 0, none⟩) 3 3] w4 (RetR R fun u6 w5 => ∃ (a7 : Option Addr) (l7 c7 : Nat) (n8
    : Int) (n9 : Int), u6 = .tuple #[.slice a7 l7 c7, .int .i64 n8, .int .i64 n9] ∧ CallsW Try.prog 13 [.int .i64 1, .slice a7 l7 c7, .slice a7 l7 c7] w5 (RetR R fun u12 w11 => ∃ (a13 : Option Addr) (l13 c13 : Nat) (n14 :
    Int), u12 = .tuple #[.slice a13 l13 c13, .int .i64 n14] ∧ ∀ w16, Grew w11 w16 → (((n8 == 0) = true → (((n9 == 0) = true → CallsW Try.prog 28 [.int .u64 2, .int .u64 1] w16 (RetR R fun u18 w17 => ∃ (n19 : Int) (b20 :
    Bool) (n21 : Int), u18 = .agg #[.int .u64 n19, .bool b20, .int .u64 n21] ∧ SameB w16 w17 [] ∧ CallsW Try.prog 28 [.int .u64 5, .int .u64 2] w17 (RetR R fun u24 w23 => ∃ (n25 : Int) (b26 : Bool) (n27 : Int), u24 = .agg
    #[.int .u64 n25, .bool b26, .int .u64 n27] ∧ SameB w17 w23 [] ∧ ∀ (b29 : Nat) (w30 : World), Alloc w23 w30 b29 (.cells #[.int .u64 n19, .bool b20, .int .u64 n21, .int .u64 n25, .bool b26, .int .u64 n27] 38) → SameB
    w23 w30 [] ∧ CallsW Try.prog 15 [.slice a7 l7 c7, .slice (some ⟨b29, 0, none⟩) 2 2] w30 (RetR R fun u32 w31 => ∃ (b33 : Bool), u32 = .bool b33 ∧ SameB w30 w31 [] ∧ ((b33 = true → (((n14 == 0) = true → CallsW Try.prog
    28 [.int .u64 2, .int .u64 2] w31 (RetR R fun u36 w35 => ∃ (n37 : Int) (b38 : Bool) (n39 : Int), u36 = .agg #[.int .u64 n37, .bool b38, .int .u64 n39] ∧ SameB w31 w35 [] ∧ CallsW Try.prog 28 [.int .u64 5, .int .u64 4]
    w35 (RetR R fun u42 w41 => ∃ (n43 : Int) (b44 : Bool) (n45 : Int), u42 = .agg #[.int .u64 n43, .bool b44, .int .u64 n45] ∧ SameB w35 w41 [] ∧ ∀ (b47 : Nat) (w48 : World), Alloc w41 w48 b47 (.cells #[.int .u64 n37,
    .bool b38, .int .u64 n39, .int .u64 n43, .bool b44, .int .u64 n45] 38) → SameB w41 w48 [] ∧ CallsW Try.prog 15 [.slice a13 l13 c13, .slice (some ⟨b47, 0, none⟩) 2 2] w48 (RetR R fun u50 w49 => ∃ (b51 : Bool), u50 =
    .bool b51 ∧ SameB w48 w49 [] ∧ ((b51 = true → CallsW Try.prog 11 [.slice a7 l7 c7] w49 (RetR R fun u54 w53 => ∃ (b55 : Bool), u54 = .bool b55 ∧ SameB w49 w53 [] ∧ ((b55 = true → withSome a7 (fun d57 => (0 ≤ (1 : Int)
    ∧ (1 : Int) < (l7 : Nat)) ∧ ∃ (b58 : Bool) (n59 : Int), CellsAt w53 (Addr.add (Addr.add d57 3) 1) 0 [.bool b58, .int .u64 n59] ∧ CallsW Try.prog 19 [.slice a7 l7 c7, .int .u64 5] w53 (RetR R fun u61 w60 => ∃ (b62 :
    Bool) (n63 : Int), u61 = .agg #[.bool b62, .int .u64 n63] ∧ SameB w53 w60 [(Addr.add (Addr.add d57 3) 1)] ∧ ∃ (b65 : Bool), PureTo Try.prog (eqS .eql 35 (.tmp 53) (.tmp 57) (.agg #[.bool b62, .int .u64 n63]) (.agg
    #[.bool b58, .int .u64 n59])) (.bool b65) ∧ ((b65 = true → ((CallsW Try.prog 17 [.slice a7 l7 c7] w60 (RetR R fun u67 w66 => ∃ (a68 : Option Addr) (l68 c68 : Nat), u67 = .slice a68 l68 c68 ∧ SameB w60 w66 [(Addr.add
    (Addr.add d57 3) 1)] ∧ ∀ (b70 : Nat) (w71 : World), Alloc w66 w71 b70 (.cells #[.int .u64 2, .int .u64 5] 30) → SameB w66 w71 [(Addr.add (Addr.add d57 3) 1)] ∧ CallsW Try.prog 16 [.slice a68 l68 c68, .slice (some
    ⟨b70, 0, none⟩) 2 2] w71 (RetR R fun u73 w72 => ∃ (b74 : Bool), u73 = .bool b74 ∧ SameB w71 w72 [(Addr.add (Addr.add d57 3) 1)] ∧ R (.returned (.bool b74)) w72))) ∧ (∀ (b76 : Nat) (w77 : World), Alloc w60 w77 b76
    (.cells #[.int .u64 2, .int .u64 5] 30) → SameB w60 w77 [(Addr.add (Addr.add d57 3) 1)] ∧ CallsW Try.prog 17 [.slice a7 l7 c7] w77 (RetR R fun u79 w78 => ∃ (a80 : Option Addr) (l80 c80 : Nat), u79 = .slice a80 l80 c80
    ∧ SameB w77 w78 [(Addr.add (Addr.add d57 3) 1)] ∧ CallsW Try.prog 16 [.slice a80 l80 c80, .slice (some ⟨b76, 0, none⟩) 2 2] w78 (RetR R fun u83 w82 => ∃ (b84 : Bool), u83 = .bool b84 ∧ SameB w78 w82 [(Addr.add
    (Addr.add d57 3) 1)] ∧ R (.returned (.bool b84)) w82))))) ∧ (b65 = false → ((R (.returned (.bool false)) w60) ∧ (R (.returned (.bool false)) w60))))))) ∧ (b55 = false → ((R (.returned (.bool false)) w53) ∧ (R
    (.returned (.bool false)) w53)))))) ∧ (b51 = false → ((R (.returned (.bool false)) w49) ∧ (R (.returned (.bool false)) w49)))))))) ∧ ((n14 == 0) = false → ((R (.returned (.bool false)) w31) ∧ (R (.returned (.bool
    false)) w31))))) ∧ (b33 = false → ((R (.returned (.bool false)) w31) ∧ (R (.returned (.bool false)) w31)))))))) ∧ ((n9 == 0) = false → ((R (.returned (.bool false)) w16) ∧ (R (.returned (.bool false)) w16))))) ∧ ((n8
    == 0) = false → ((R (.returned (.bool false)) w16) ∧ (R (.returned (.bool false)) w16))))))
theorem sx10.ok  {R : Ending → World → Prop} {w : World} (h : sx10  R w) : CallsW Try.prog 10 [] w R :=
  callsW_of mix Try.func10 (by kernel_rfl) (by kernel_rfl) (Eq.mpr (by kernel_rfl : denFn Try.prog { pureTo := [58], draws := [(3, { order := (.cons 0 (.cons 1 (.cons 2 (.cons 3 (.cons 4 (.cons 5 (.cons 6 (.cons 7 (.cons 8 (.cons 9 (.cons 10 (.cons 11 (.cons 12 (.cons 13 (.cons 14 (.cons 15 (.cons 16 (.cons 17 (.cons 18 (.cons 19 (.cons 20 (.cons 21 (.cons 22 (.cons 23 (.cons 24 (.cons 25 (.cons 26 (.cons 27 (.cons 28 (.cons 29 (.cons 31 (.cons 32 (.cons 33 (.cons 34 (.cons 30 (.cons 35 (.cons 36 (.cons 37 (.cons 38 (.alt (.cons 39 (.cons 40 (.cons 41 (.cons 42 (.cons 43 .nil))))) (.cons 40 (.cons 39 (.cons 41 (.cons 42 (.cons 43 .nil))))))))))))))))))))))))))))))))))))))))))))), bars := [] })] } Try.f10 [] R w = sx10  R w) h)


def pairEqb (x y : PairV) : Bool := (x.key == y.key) && ((x.has == y.has && (x.bits == y.bits && true)) && true)
def valEqb (x y : ValV) : Bool := x.has == y.has && (x.bits == y.bits && true)
theorem pairEqb_iff (x y : PairV) : pairEqb x y = decide (x = y) := by
  obtain ⟨a1, a2, a3⟩ := x
  obtain ⟨b1, b2, b3⟩ := y
  simp [pairEqb]
  grind
theorem valEqb_iff (x y : ValV) : valEqb x y = decide (x = y) := by
  obtain ⟨a1, a2⟩ := x
  obtain ⟨b1, b2⟩ := y
  simp [valEqb]
  grind
theorem val_neq {x y : ValV} {p q : Operand} : PureTo Try.prog (eqS .neq 35 p q (.agg #[.bool x.has, .int .u64 x.bits]) (.agg #[.bool y.has, .int .u64 y.bits])) (.bool (!decide (x = y))) := by
  rw [← valEqb_iff]
  exact eqS_neq (by kernel_rfl) (by kernel_rfl)
theorem val_eql {x y : ValV} {p q : Operand} : PureTo Try.prog (eqS .eql 35 p q (.agg #[.bool x.has, .int .u64 x.bits]) (.agg #[.bool y.has, .int .u64 y.bits])) (.bool (decide (x = y))) := by
  rw [← valEqb_iff]
  exact eqS_eql (by kernel_rfl) (by kernel_rfl)
theorem pair_neq {x y : PairV} {p q : Operand} : PureTo Try.prog (eqS .neq 38 p q (.agg #[.int .u64 x.key, .bool x.has, .int .u64 x.bits]) (.agg #[.int .u64 y.key, .bool y.has, .int .u64 y.bits])) (.bool (!decide (x = y))) := by
  rw [← pairEqb_iff]
  exact eqS_neq (b := pairEqb x y) (by kernel_rfl) (by kernel_rfl)
theorem same_ok {a b : Option Addr} {n c m d : Nat} {l r : List PairV} {w : World} (ha : Reads w Enc.pair (a, n, c) l) (hb : Reads w Enc.pair (b, m, d) r) (hl : l.length ≤ 9223372036854775806) :
    CallsW Try.prog 15 [.slice a n c, .slice b m d] w (Rets fun v w' => v = .bool (decide (l = r)) ∧ Grew w w') := by
  refine sx15.ok ?_
  unfold sx15
  have hn : n = l.length := ha.2.1
  have hm : m = r.length := hb.2.1
  subst hn; subst hm
  refine ⟨fun h => ⟨_, rfl, ?_, Grew.refl _⟩, fun h => ?_⟩
  · congr 1; symm; rw [decide_eq_false_iff_not]; rintro rfl; simp at h
  have hlr : l.length = r.length := by simp at h; omega
  refine ⟨fun i w' => ∃ k : Nat, i = k ∧ k ≤ l.length ∧ l.take k = r.take k ∧ Grew w w', fun i _ => l.length - i.toNat, ⟨0, rfl, Nat.zero_le _, rfl, Grew.refl _⟩, ?_⟩
  rintro i w3 ⟨k, rfl, hk, ht, hg3⟩
  refine ⟨fun hlt => ?_, fun hge => ?_⟩
  · simp only [decide_eq_true_eq] at hlt
    obtain ⟨da, x, rfl, hx, hxc⟩ := (ha.grew hg3).at0 (k := k) (by omega)
    obtain ⟨db, y, rfl, hy, hyc⟩ := (hb.grew hg3).at0 (k := k) (by omega)
    have hw : IntKind.i64.wrap ((k : Int) + 1) = ((k + 1 : Nat) : Int) := by rw [IntKind.wrap_i64]; omega
    rw [hw]
    refine ⟨⟨by omega, by omega⟩, _, _, _, (pair_cells hxc).1, ⟨by omega, by omega⟩, _, _, _, (pair_cells hyc).1, _, pair_neq, fun w13 hg13 => ⟨fun hne => ⟨_, rfl, ?_, hg3.trans hg13⟩, fun heq => ⟨⟨k + 1, rfl, by omega, ?_, hg3.trans hg13⟩, by show l.length - (((k + 1 : Nat) : Int)).toNat < l.length - ((k : Int)).toNat; omega⟩⟩⟩
    · congr 1; symm; rw [decide_eq_false_iff_not]; rintro rfl
      rw [hx] at hy; cases hy; simp at hne
    · have : x = y := by simpa using heq
      rw [take_snoc hx, take_snoc hy, ht, this]
  · simp only [decide_eq_false_iff_not] at hge
    rw [List.take_of_length_le (by omega), List.take_of_length_le (by omega)] at ht
    exact ⟨_, rfl, by rw [ht]; simp, hg3⟩
theorem lkeys_ok {a b : Option Addr} {n c m d : Nat} {l : List Int} {w : World} (ha : Reads w (Enc.int .u64) (a, n, c) l) (hb : Reads w (Enc.int .u64) (b, m, d) l) (hl : l.length ≤ 9223372036854775806) :
    CallsW Try.prog 16 [.slice a n c, .slice b m d] w (Rets fun v w' => v = .bool true ∧ Grew w w') := by
  refine sx16.ok ?_
  unfold sx16
  have hn : n = l.length := ha.2.1
  have hm : m = l.length := hb.2.1
  subst hn; subst hm
  refine ⟨fun h => (by simp at h), fun _ => ⟨fun i w' => ∃ k : Nat, i = k ∧ k ≤ l.length ∧ Grew w w', fun i _ => l.length - i.toNat, ⟨0, rfl, Nat.zero_le _, Grew.refl _⟩, ?_⟩⟩
  rintro i w3 ⟨k, rfl, hk, hg3⟩
  refine ⟨fun hlt => ?_, fun _ => ⟨_, rfl, rfl, hg3⟩⟩
  simp only [decide_eq_true_eq] at hlt
  obtain ⟨da, x, rfl, hx, hxc⟩ := (ha.grew hg3).at0 (k := k) (by omega)
  obtain ⟨db, y, rfl, hy, hyc⟩ := (hb.grew hg3).at0 (k := k) (by omega)
  rw [hx] at hy; cases hy
  have hw : IntKind.i64.wrap ((k : Int) + 1) = ((k + 1 : Nat) : Int) := by rw [IntKind.wrap_i64]; omega
  rw [hw]
  refine ⟨⟨by omega, by omega⟩, x, by simpa [Enc.int, CellsAt, Addr.add_zero'] using hxc, ⟨by omega, by omega⟩, x, by simpa [Enc.int, CellsAt, Addr.add_zero'] using hyc, fun w8 hg8 => ⟨fun h => (by simp at h), fun _ => ⟨⟨k + 1, rfl, by omega, hg3.trans hg8⟩, by show l.length - (((k + 1 : Nat) : Int)).toNat < l.length - ((k : Int)).toNat; omega⟩⟩⟩
theorem pair_ok {k n : Int} {w : World} : CallsW Try.prog 28 [.int .u64 k, .int .u64 n] w (Rets fun v w' => v = .agg #[.int .u64 k, .bool true, .int .u64 n] ∧ Grew w w') := by
  refine sx28.ok ?_
  unfold sx28
  exact fun w1 hg => ⟨_, rfl, rfl, hg⟩

theorem cell_blockF {w : World} {a : Addr} {v : Value} (h : w.cell? a = some v) : a.block < w.heap.size := by
  by_cases hb : a.block < w.heap.size
  · exact hb
  · exfalso
    have : w.heap[a.block]? = none := Array.getElem?_eq_none (by omega)
    simp [World.cell?, this] at h
def awO : List OpV := [⟨9, 0, 0⟩]
def awR : List RecV := [⟨5, 4607182418800017408⟩, ⟨2, 4613937818241073152⟩, ⟨5, 0⟩]
def awT : List PairV := [⟨2, true, 1⟩, ⟨5, true, 2⟩]
def awT2 : List PairV := [⟨2, true, 2⟩, ⟨5, true, 4⟩]
theorem aw_facts : checkB awO = true ∧ knownB 1 = true ∧ (batchAll awO 1 awR).2 = 0 ∧ tableT (batchAll awO 1 awR).1 = awT ∧ soundB awT = true ∧ tableT (addT 1 [] (awT ++ awT)) = awT2 ∧ findT awT 5 = ⟨true, 2⟩ ∧ awT.map (·.key) = [2, 5] := by
  have e1 : sortL [5, 2] = [2, 5] := strict_ext (sortL_strict (by decide)) (by decide) fun x => by rw [sortL_mem]; simp [or_comm]
  have e2 : sortL [2, 5] = [2, 5] := strict_ext (sortL_strict (by decide)) (by decide) fun x => by rw [sortL_mem]
  have m1 : (batchAll awO 1 awR).1 = [(5, ⟨true, 2⟩), (2, ⟨true, 1⟩)] := by decide +kernel
  have m2 : addT 1 [] (awT ++ awT) = [(2, ⟨true, 2⟩), (5, ⟨true, 4⟩)] := by decide +kernel
  refine ⟨by decide +kernel, by decide +kernel, by decide +kernel, ?_, by decide +kernel, ?_, by decide +kernel, by decide +kernel⟩
  · rw [m1]
    show (sortL [5, 2]).map _ = _
    rw [e1]; rfl
  · rw [m2]
    show (sortL [2, 5]).map _ = _
    rw [e2]; rfl

set_option maxHeartbeats 1000000 in
theorem awakeF_ok {w : World} : CallsW Try.prog 10 [] w (Rets fun v w' => v = .bool true ∧ Grew w w') := by
  refine sx10.ok ?_
  unfold sx10
  obtain ⟨f1, f2, f3, f4, f5, f6, f7, f8⟩ := aw_facts
  have nb : ∀ {x y : World}, SameB x y [] := by intro x y; simp [SameB]
  intro b1 w2 hal2 b3 w4 hal4
  have hoO := (Own.alloc (E := Enc.op3) (l := awO) hal2 (Nat.le_refl _) rfl (by simp [awO, maxLen])).grew hal4.grew
  have hoR := Own.alloc (E := Enc.rcd) (l := awR) hal4 (Nat.le_refl _) rfl (by simp [awR, maxLen])
  have hg4 := hal2.grew.trans hal4.grew
  have hfO : ∀ o ∈ awO, o.Fits := by
    intro o ho
    simp only [awO, List.mem_cons, List.not_mem_nil, or_false] at ho
    rcases ho with rfl; exact ⟨by simp, by simp, by simp⟩
  have hfR : ∀ x ∈ awR, x.Fits := by
    intro x hx
    simp only [awR, List.mem_cons, List.not_mem_nil, or_false] at hx
    rcases hx with rfl | rfl | rfl <;> exact ⟨⟨by simp, by simp [u64m]⟩, by simp⟩
  have hfT : ∀ x ∈ awT, x.Fits := by
    intro x hx
    simp only [awT, List.mem_cons, List.not_mem_nil, or_false] at hx
    rcases hx with rfl | rfl <;> exact ⟨⟨by simp, by simp [u64m]⟩, ⟨by simp, by simp [u64m]⟩⟩
  refine (Batch_ok (kind := 1) hoO.reads hfO hoR.reads hfR (by simp [awR])).use fun u w5 ⟨a7, l7, c7, hv, ho5, hg5⟩ => ?_
  rw [f1, f2, f3] at hv
  simp only [f1, f2, f4, and_self, if_true] at ho5
  subst hv
  have hg5' := hg4.trans hg5
  have hl7 : l7 = 2 := by rw [ho5.len]; rfl
  subst hl7
  refine ⟨_, _, _, _, _, rfl, ?_⟩
  refine (Add_ok (kind := 1) ho5.reads hfT (by simp [awT, maxLen]) ho5.reads hfT (by simp [awT, maxLen]) (by simp [awT])).use fun u w11 ⟨a13, l13, c13, hv, ho11, hg11⟩ => ?_
  rw [f2, f5] at hv
  simp only [f2, f5, f6, and_self, if_true] at ho11
  subst hv
  have ho5a := ho5.grew hg11
  have hg11' := hg5'.trans hg11
  refine ⟨_, _, _, _, rfl, fun w16 hg16 => ⟨fun _ => ⟨fun _ => ?_, fun h => (by simp at h)⟩, fun h => (by simp at h)⟩⟩
  have hg16' := hg11'.trans hg16
  refine pair_ok.use fun u w17 ⟨hv, hg17⟩ => ?_
  subst hv
  refine ⟨_, _, _, rfl, nb, pair_ok.use fun u w23 ⟨hv, hg23⟩ => ?_⟩
  subst hv
  refine ⟨_, _, _, rfl, nb, fun b29 w30 hal30 => ⟨nb, ?_⟩⟩
  have hx30 := Own.alloc (E := Enc.pair) (l := awT) hal30 (Nat.le_refl _) rfl (by simp [awT, maxLen])
  have g1630 := hg17.trans (hg23.trans hal30.grew)
  have hT30 := (ho5a.grew hg16).grew g1630
  have hA30 := (ho11.grew hg16).grew g1630
  have hg30 := hg16'.trans g1630
  refine (same_ok hT30.reads hx30.reads (by simp [awT])).use fun u w31 ⟨hv, hg31⟩ => ?_
  subst hv
  have hT31 := hT30.grew hg31
  have hA31 := hA30.grew hg31
  have hg31' := hg30.trans hg31
  refine ⟨_, rfl, nb, fun _ => ⟨fun _ => ?_, fun h => (by simp at h)⟩, fun h => (by simp at h)⟩
  refine pair_ok.use fun u w35 ⟨hv, hg35⟩ => ?_
  subst hv
  refine ⟨_, _, _, rfl, nb, pair_ok.use fun u w41 ⟨hv, hg41⟩ => ?_⟩
  subst hv
  refine ⟨_, _, _, rfl, nb, fun b47 w48 hal48 => ⟨nb, ?_⟩⟩
  have hx48 := Own.alloc (E := Enc.pair) (l := awT2) hal48 (Nat.le_refl _) rfl (by simp [awT2, maxLen])
  have g3148 := hg35.trans (hg41.trans hal48.grew)
  have hT48 := hT31.grew g3148
  have hA48 := hA31.grew g3148
  have hg48 := hg31'.trans g3148
  refine (same_ok hA48.reads hx48.reads (by simp [awT2])).use fun u w49 ⟨hv, hg49⟩ => ?_
  subst hv
  have hT49 := hT48.grew hg49
  have hg49' := hg48.trans hg49
  refine ⟨_, rfl, nb, fun _ => ?_, fun h => (by simp at h)⟩
  refine (Sound_ok hT49.reads (by simp [awT, maxLen])).use fun u w53 ⟨hv, hg53⟩ => ?_
  rw [f5] at hv
  subst hv
  have hT53 := hT49.grew hg53
  have hg53' := hg49'.trans hg53
  refine ⟨_, rfl, nb, fun _ => ?_, fun h => (by cases h)⟩
  obtain ⟨d57, x, hd, hx, hxc⟩ := hT53.reads.at0 (k := 1) (by omega)
  simp [awT] at hx
  subst hx
  subst hd
  have hcell : CellsAt w53 (Addr.add (Addr.add d57 3) 1) 0 [.bool true, .int .u64 2] := by
    have h1 := cellsAt_get hxc 1 _ rfl
    have h2 := cellsAt_get hxc 2 _ rfl
    refine ⟨?_, ?_, trivial⟩
    · simpa [Enc.pair, Addr.add_add] using h1
    · simpa [Enc.pair, Addr.add_add] using h2
  have sb : ∀ {x y : World}, Grew w53 x → Grew x y → SameB x y [Addr.add (Addr.add d57 3) 1] := fun h1 h2 => by
    refine ⟨h2.block _ ?_, trivial⟩
    have := cell_blockF hcell.1
    rw [Addr.add_zero'] at this
    have := h1.size
    omega
  rw [withSome]
  refine ⟨⟨by omega, by omega⟩, _, _, hcell, (Find_ok hT53.reads (by simp [awT, maxLen])).use fun u w60 ⟨hv, hg60⟩ => ?_⟩
  rw [f7] at hv
  subst hv
  have hT60 := hT53.grew hg60
  have hg60' := hg53'.trans hg60
  have veq : PureTo Try.prog (eqS .eql 35 (.tmp 53) (.tmp 57) (.agg #[.bool true, .int .u64 2]) (.agg #[.bool true, .int .u64 2])) (.bool (decide ((ValV.mk true 2) = ⟨true, 2⟩))) := val_eql (x := ⟨true, 2⟩) (y := ⟨true, 2⟩)
  refine ⟨_, _, rfl, sb (Grew.refl _) hg60, _, veq, fun _ => ⟨?_, fun b76 w77 hal77 => ⟨sb hg60 hal77.grew, ?_⟩⟩, fun h => (by simp at h)⟩
  · refine (FKeys_ok hT60.reads (by simp [awT, maxLen]) (by simp [awT])).use fun u w66 ⟨a68, l68, c68, hv, ho66, hg66⟩ => ?_
    subst hv
    rw [f8] at ho66
    refine ⟨_, _, _, rfl, sb hg60 hg66, fun b70 w71 hal71 => ⟨sb (hg60.trans hg66) hal71.grew, ?_⟩⟩
    have hx71 := Own.alloc (E := Enc.int .u64) (l := [2, 5]) hal71 (Nat.le_refl _) rfl (by simp [maxLen])
    refine (lkeys_ok (ho66.grew hal71.grew).reads hx71.reads (by simp)).use fun u w72 ⟨hv, hg72⟩ => ?_
    subst hv
    exact ⟨_, rfl, sb ((hg60.trans hg66).trans hal71.grew) hg72, _, rfl, rfl, hg60'.trans (hg66.trans (hal71.grew.trans hg72))⟩
  · have hx77 := Own.alloc (E := Enc.int .u64) (l := [2, 5]) hal77 (Nat.le_refl _) rfl (by simp [maxLen])
    refine (FKeys_ok (hT60.grew hal77.grew).reads (by simp [awT, maxLen]) (by simp [awT])).use fun u w78 ⟨a80, l80, c80, hv, ho78, hg78⟩ => ?_
    subst hv
    rw [f8] at ho78
    refine ⟨_, _, _, rfl, sb (hg60.trans hal77.grew) hg78, ?_⟩
    refine (lkeys_ok ho78.reads (hx77.grew hg78).reads (by simp)).use fun u w82 ⟨hv, hg82⟩ => ?_
    subst hv
    exact ⟨_, rfl, sb ((hg60.trans hal77.grew).trans hg78) hg82, _, rfl, rfl, hg60'.trans (hal77.grew.trans (hg78.trans hg82))⟩
end Go.Proofs.Ytoljpkdokpinhaa
