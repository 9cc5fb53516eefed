/- The law's helpers over two sources. Conditions: none. -/
import Derived.Test.YtifhpmmdfjmppaaGreatProg
import Derived.Test.YtifhpmmdfjmppaaGreatSrcW
import Derived.Test.YtifhpmmdfjmppaaGreatSxX
namespace Go.Proofs.YtifhpmmdfjmppaaGreat
open Go.Sx
set_option maxRecDepth 100000
set_option linter.unusedVariables false
set_option linter.unusedSimpArgs false
/- reprise/repriseraw.Same -/
def sx33 (a : Nat) (b : Nat) (R : Ending → World → Prop) (w : World) : Prop :=
  CallsW Tryz.prog 44 [.float .f64 a] w (RetR R fun u2 w1 => ∃ (n3 : Int), u2 = .int .u64 n3 ∧ CallsW Tryz.prog 44 [.float .f64 b] w1 (RetR R fun u6 w5 => ∃ (n7 : Int), u6 = .int .u64 n7 ∧ R (.returned (.bool (n3 == n7)))
    w5))
theorem sx33.ok {a : Nat} {b : Nat} {R : Ending → World → Prop} {w : World} (h : sx33 a b R w) : CallsW Tryz.prog 33 [.float .f64 a, .float .f64 b] w R :=
  callsW_of mix Tryz.func33 (by kernel_rfl) (by kernel_rfl) (Eq.mpr (by kernel_rfl : denFn Tryz.prog {} Tryz.f33 [.float .f64 a, .float .f64 b] R w = sx33 a b R w) h)

/- reprise/repriselaw06.records -/
def sx13 (a : Option Addr) (a_n a_c : Nat) (b : Option Addr) (b_n b_c : Nat) (R : Ending → World → Prop) (w : World) : Prop :=
  (((((a_n : Nat) : Int) != ((b_n : Nat) : Int)) = true → R (.returned (.bool false)) w) ∧ ((((a_n : Nat) : Int) != ((b_n : Nat) : Int)) = false → ∃ (I1 : Int → World → Prop) (m1 : Int → World → Nat), I1 0 w ∧ ∀ (n2 : Int)
    (w3 : World), I1 n2 w3 → (((decide (n2 < ((a_n : Nat) : Int))) = true → ∀ w4, Grew w3 w4 → withSome a (fun d5 => (0 ≤ n2 ∧ n2 < (a_n : Nat)) ∧ ∃ (n6 : Int), w4.cell? (Addr.add d5 (n2.toNat * 2)) = some (.int .u64 n6)
    ∧ withSome b (fun d7 => (0 ≤ n2 ∧ n2 < (b_n : Nat)) ∧ ∃ (n8 : Int), w4.cell? (Addr.add d7 (n2.toNat * 2)) = some (.int .u64 n8) ∧ (((n6 != n8) = true → R (.returned (.bool false)) w4) ∧ ((n6 != n8) = false → withSome
    a (fun d9 => (0 ≤ n2 ∧ n2 < (a_n : Nat)) ∧ ∃ (x10 : Nat), w4.cell? (Addr.add (Addr.add d9 (n2.toNat * 2)) 1) = some (.float .f64 x10) ∧ withSome b (fun d11 => (0 ≤ n2 ∧ n2 < (b_n : Nat)) ∧ ∃ (x12 : Nat), w4.cell?
    (Addr.add (Addr.add d11 (n2.toNat * 2)) 1) = some (.float .f64 x12) ∧ CallsW Tryz.prog 33 [.float .f64 x10, .float .f64 x12] w4 (RetR R fun u14 w13 => ∃ (b15 : Bool), u14 = .bool b15 ∧ SameB w4 w13 [(Addr.add (Addr.add
    d11 (n2.toNat * 2)) 1), (Addr.add (Addr.add d9 (n2.toNat * 2)) 1), (Addr.add d7 (n2.toNat * 2)), (Addr.add d5 (n2.toNat * 2))] ∧ (((!b15) = true → R (.returned (.bool false)) w13) ∧ ((!b15) = false → (I1
    (IntKind.i64.wrap (n2 + 1)) w13 ∧ m1 (IntKind.i64.wrap (n2 + 1)) w13 < m1 n2 w3))))))))))) ∧ ((decide (n2 < ((a_n : Nat) : Int))) = false → R (.returned (.bool true)) w3))))
theorem sx13.ok {a : Option Addr} {a_n a_c : Nat} {b : Option Addr} {b_n b_c : Nat} {R : Ending → World → Prop} {w : World} (h : sx13 a a_n a_c b b_n b_c R w) : CallsW Tryz.prog 13 [.slice a a_n a_c, .slice b b_n b_c] w R :=
  callsW_of mix Tryz.func13 (by kernel_rfl) (by kernel_rfl) (Eq.mpr (by kernel_rfl : denFn Tryz.prog { draws := [(6, { order := (.cons 0 (.cons 1 (.cons 2 (.cons 3 (.cons 4 (.cons 5 (.cons 6 (.cons 7 (.cons 8 (.cons 9 (.cons 10 (.cons 11 (.cons 12 (.cons 13 (.cons 14 (.cons 15 (.cons 16 (.cons 17 (.cons 18 (.cons 19 (.cons 20 (.cons 21 (.cons 22 (.cons 23 (.cons 24 .nil))))))))))))))))))))))))), bars := [] })], loops := [(4, { slots := [(5, .int .i64)], cells := [] })] } Tryz.f13 [.slice a a_n a_c, .slice b b_n b_c] R w = sx13 a a_n a_c b b_n b_c R w) h)

/- reprise/repriselaw06.keys -/
def sx8 (a : Option Addr) (a_n a_c : Nat) (b : Option Addr) (b_n b_c : Nat) (R : Ending → World → Prop) (w : World) : Prop :=
  (((((a_n : Nat) : Int) != ((b_n : Nat) : Int)) = true → R (.returned (.bool false)) w) ∧ ((((a_n : Nat) : Int) != ((b_n : Nat) : Int)) = false → ∃ (I1 : Int → World → Prop) (m1 : Int → World → Nat), I1 0 w ∧ ∀ (n2 : Int)
    (w3 : World), I1 n2 w3 → (((decide (n2 < ((a_n : Nat) : Int))) = true → withSome a (fun d4 => (0 ≤ n2 ∧ n2 < (a_n : Nat)) ∧ ∃ (n5 : Int), w3.cell? (Addr.add d4 (n2.toNat * 1)) = some (.int .u64 n5) ∧ withSome b (fun
    d6 => (0 ≤ n2 ∧ n2 < (b_n : Nat)) ∧ ∃ (n7 : Int), w3.cell? (Addr.add d6 (n2.toNat * 1)) = some (.int .u64 n7) ∧ ∀ w8, Grew w3 w8 → (((n5 != n7) = true → R (.returned (.bool false)) w8) ∧ ((n5 != n7) = false → (I1
    (IntKind.i64.wrap (n2 + 1)) w8 ∧ m1 (IntKind.i64.wrap (n2 + 1)) w8 < m1 n2 w3)))))) ∧ ((decide (n2 < ((a_n : Nat) : Int))) = false → R (.returned (.bool true)) w3))))
theorem sx8.ok {a : Option Addr} {a_n a_c : Nat} {b : Option Addr} {b_n b_c : Nat} {R : Ending → World → Prop} {w : World} (h : sx8 a a_n a_c b b_n b_c R w) : CallsW Tryz.prog 8 [.slice a a_n a_c, .slice b b_n b_c] w R :=
  callsW_of mix Tryz.func8 (by kernel_rfl) (by kernel_rfl) (Eq.mpr (by kernel_rfl : denFn Tryz.prog { loops := [(4, { slots := [(5, .int .i64)], cells := [] })] } Tryz.f8 [.slice a a_n a_c, .slice b b_n b_c] R w = sx8 a a_n a_c b b_n b_c R w) h)

/- reprise/repriselaw06.awake -/
def sx4  (R : Ending → World → Prop) (w : World) : Prop :=
  ∀ (b1 : Nat) (w2 : World), Alloc w w2 b1 (.cells #[.int .i64 1, .int .i64 0, .float .f64 4617315517961601024, .int .i64 11, .int .i64 3, .float .f64 0] 53) → CallsW Tryz.prog 5 [.int .i64 2, .slice (some ⟨b1, 0, none⟩) 2
    2] w2 (RetR R fun u4 w3 => ∃ (p5 : Option Addr) (n6 : Int), u4 = .tuple #[.pointer p5, .int .i64 n6] ∧ (((Option.isNone p5) = true → R (.returned (.bool false)) w3) ∧ ((Option.isNone p5) = false → (((n6 != 0) = true →
    R (.returned (.bool false)) w3) ∧ ((n6 != 0) = false → CallsW Tryz.prog 20 [.pointer p5, .int .i64 0, .agg #[.int .u64 7, .float .f64 4607182418800017408]] w3 (RetR R fun u9 w8 => ∃ (n10 : Int), u9 = .int .i64 n10 ∧
    CallsW Tryz.prog 20 [.pointer p5, .int .i64 0, .agg #[.int .u64 9, .float .f64 4620693217682128896]] w8 (RetR R fun u13 w12 => ∃ (n14 : Int), u13 = .int .i64 n14 ∧ CallsW Tryz.prog 21 [.pointer p5, .int .i64 0, .int
    .i64 1, .int .i64 9] w12 (RetR R fun u17 w16 => ∃ (a18 : Option Addr) (l18 c18 : Nat) (n19 : Int), u17 = .tuple #[.slice a18 l18 c18, .int .i64 n19] ∧ (((n10 == 0) = true → (((n14 == 0) = true → CallsW Tryz.prog 20
    [.pointer p5, .int .i64 2, .agg #[.int .u64 0, .float .f64 0]] w16 (RetR R fun u22 w21 => ∃ (n23 : Int), u22 = .int .i64 n23 ∧ (((n23 == 60) = true → CallsW Tryz.prog 18 [.pointer p5, .int .i64 0] w21 (RetR R fun u26
    w25 => ∃ (n27 : Int), u26 = .int .i64 n27 ∧ (((n27 == 2) = true → (((n19 == 0) = true → ∀ (b29 : Nat) (w30 : World), Alloc w25 w30 b29 (.cells #[.int .u64 9, .float .f64 4620693217682128896] 38) → CallsW Tryz.prog 13
    [.slice a18 l18 c18, .slice (some ⟨b29, 0, none⟩) 1 1] w30 (RetR R fun u32 w31 => ∃ (b33 : Bool), u32 = .bool b33 ∧ ((b33 = true → CallsW Tryz.prog 9 [.pointer p5] w31 (RetR R fun u36 w35 => ∃ (a37 : Option Addr) (l37
    c37 : Nat), u36 = .slice a37 l37 c37 ∧ ∀ (b39 : Nat) (w40 : World), Alloc w35 w40 b39 (.cells #[.int .u64 1] 35) → CallsW Tryz.prog 8 [.slice a37 l37 c37, .slice (some ⟨b39, 0, none⟩) 1 1] w40 (RetR R fun u42 w41 => ∃
    (b43 : Bool), u42 = .bool b43 ∧ ((b43 = true → CallsW Tryz.prog 16 [.pointer p5, .int .i64 1] w41 (RetR R fun u46 w45 => ∃ (b47 : Bool), u46 = .bool b47 ∧ ((b47 = true → CallsW Tryz.prog 11 [.pointer p5] w45 (RetR R fun
    u50 w49 => ∃ (n51 : Int), u50 = .int .i64 n51 ∧ (((n51 == 2) = true → CallsW Tryz.prog 14 [.pointer p5, .int .i64 0] w49 (RetR R fun u54 w53 => ∃ (a55 : Option Addr) (l55 c55 : Nat), u54 = .slice a55 l55 c55 ∧ R
    (.returned (.bool (((l55 : Nat) : Int) == 2))) w53)) ∧ ((n51 == 2) = false → R (.returned (.bool false)) w49)))) ∧ (b47 = false → R (.returned (.bool false)) w45)))) ∧ (b43 = false → R (.returned (.bool false))
    w41))))) ∧ (b33 = false → R (.returned (.bool false)) w31)))) ∧ ((n19 == 0) = false → R (.returned (.bool false)) w25))) ∧ ((n27 == 2) = false → R (.returned (.bool false)) w25)))) ∧ ((n23 == 60) = false → R
    (.returned (.bool false)) w21)))) ∧ ((n14 == 0) = false → R (.returned (.bool false)) w16))) ∧ ((n10 == 0) = false → R (.returned (.bool false)) w16))))))))))
theorem sx4.ok  {R : Ending → World → Prop} {w : World} (h : sx4  R w) : CallsW Tryz.prog 4 [] w R :=
  callsW_of mix Tryz.func4 (by kernel_rfl) (by kernel_rfl) (Eq.mpr (by kernel_rfl : denFn Tryz.prog {} Tryz.f4 [] R w = sx4  R w) h)


theorem Same_ok {x y : Nat} {w : World} : CallsW Tryz.prog 33 [.float .f64 x, .float .f64 y] w (Rets fun v w' => v = .bool (decide (x = y)) ∧ w' = w) := by
  refine sx33.ok ?_
  unfold sx33
  refine fbits_ok.use fun v w1 ⟨hv, hw⟩ => ?_
  subst hv; subst hw
  refine ⟨_, rfl, fbits_ok.use fun v w2 ⟨hv, hw⟩ => ?_⟩
  subst hv; subst hw
  refine ⟨_, rfl, _, rfl, ?_, rfl⟩
  congr 1
  rw [Bool.eq_iff_iff, decide_eq_true_eq, beq_iff_eq]; omega
theorem rec_cells {w : World} {d : Addr} {x : RecV} {k : Nat} (h : CellsAt w (d.add (k * Enc.rcd.sz)) 0 (Enc.rcd.f x)) :
    w.cell? (Addr.add d (((k : Nat) : Int).toNat * 2)) = some (.int .u64 x.key) ∧ w.cell? (Addr.add (Addr.add d (((k : Nat) : Int).toNat * 2)) 1) = some (.float .f64 x.val) := by
  constructor
  · have := cellsAt_get h 0 _ rfl; simpa [Enc.rcd, Addr.add_zero'] using this
  · have := cellsAt_get h 1 _ rfl; simpa [Enc.rcd, Addr.add_add] using this
theorem records_ok {a b : Option Addr} {n c m d : Nat} {l : List RecV} {w : World} (ha : Reads w Enc.rcd (a, n, c) l) (hb : Reads w Enc.rcd (b, m, d) l) (hl : l.length ≤ 9223372036854775806) :
    CallsW Tryz.prog 13 [.slice a n c, .slice b m d] w (Rets fun v w' => v = .bool true ∧ Grew w w') := by
  refine sx13.ok ?_
  unfold sx13
  have hn : n = l.length := ha.2.1
  have hm : m = l.length := hb.2.1
  subst hn; subst hm
  refine ⟨fun h => (by simp at h), fun _ => ⟨fun i w' => ∃ k : Nat, i = k ∧ k ≤ l.length ∧ Grew w w', fun i _ => l.length - i.toNat, ⟨0, rfl, Nat.zero_le _, Grew.refl _⟩, ?_⟩⟩
  rintro i w3 ⟨k, rfl, hk, hg3⟩
  refine ⟨fun hlt w4 hg4 => ?_, fun _ => ⟨_, rfl, rfl, hg3⟩⟩
  simp only [decide_eq_true_eq] at hlt
  have hg4' := hg3.trans hg4
  obtain ⟨da, x, rfl, hx, hxc⟩ := (ha.grew hg4').at0 (k := k) (by omega)
  obtain ⟨db, y, rfl, hy, hyc⟩ := (hb.grew hg4').at0 (k := k) (by omega)
  rw [hx] at hy; cases hy
  obtain ⟨x1, x2⟩ := rec_cells hxc
  obtain ⟨y1, y2⟩ := rec_cells hyc
  have hw : IntKind.i64.wrap ((k : Int) + 1) = ((k + 1 : Nat) : Int) := by rw [IntKind.wrap_i64]; omega
  rw [hw]
  refine ⟨⟨by omega, by omega⟩, _, x1, ⟨by omega, by omega⟩, _, y1, fun h => (by simp at h), fun _ => ⟨⟨by omega, by omega⟩, _, x2, ⟨by omega, by omega⟩, _, y2, Same_ok.use fun v w13 ⟨hv, hw⟩ => ?_⟩⟩
  subst hv; subst hw
  refine ⟨_, rfl, ⟨rfl, rfl, rfl, rfl, trivial⟩, fun h => (by simp at h), fun _ => ⟨⟨k + 1, rfl, by omega, hg4'⟩, by show l.length - (((k + 1 : Nat) : Int)).toNat < l.length - ((k : Int)).toNat; omega⟩⟩
theorem lkeys_ok {a b : Option Addr} {n c m d : Nat} {l : List Int} {w : World} (ha : Reads w (Enc.int .u64) (a, n, c) l) (hb : Reads w (Enc.int .u64) (b, m, d) l) (hl : l.length ≤ 9223372036854775806) :
    CallsW Tryz.prog 8 [.slice a n c, .slice b m d] w (Rets fun v w' => v = .bool true ∧ Grew w w') := by
  refine sx8.ok ?_
  unfold sx8
  have hn : n = l.length := ha.2.1
  have hm : m = l.length := hb.2.1
  subst hn; subst hm
  refine ⟨fun h => (by simp at h), fun _ => ⟨fun i w' => ∃ k : Nat, i = k ∧ k ≤ l.length ∧ Grew w w', fun i _ => l.length - i.toNat, ⟨0, rfl, Nat.zero_le _, Grew.refl _⟩, ?_⟩⟩
  rintro i w3 ⟨k, rfl, hk, hg3⟩
  refine ⟨fun hlt => ?_, fun _ => ⟨_, rfl, rfl, hg3⟩⟩
  simp only [decide_eq_true_eq] at hlt
  obtain ⟨da, x, rfl, hx, hxc⟩ := (ha.grew hg3).at0 (k := k) (by omega)
  obtain ⟨db, y, rfl, hy, hyc⟩ := (hb.grew hg3).at0 (k := k) (by omega)
  rw [hx] at hy; cases hy
  have hw : IntKind.i64.wrap ((k : Int) + 1) = ((k + 1 : Nat) : Int) := by rw [IntKind.wrap_i64]; omega
  rw [hw]
  refine ⟨⟨by omega, by omega⟩, x, by simpa [Enc.int, CellsAt, Addr.add_zero'] using hxc, ⟨by omega, by omega⟩, x, by simpa [Enc.int, CellsAt, Addr.add_zero'] using hyc, fun w8 hg8 => ⟨fun h => (by simp at h), fun _ => ⟨⟨k + 1, rfl, by omega, hg3.trans hg8⟩, by show l.length - (((k + 1 : Nat) : Int)).toNat < l.length - ((k : Int)).toNat; omega⟩⟩⟩

/-- a source that went on keeps what was there -/
theorem SrM.grew {w0 w w' : World} {B : Nat} {x : SrcX} {v v' : SrcV} (h : SrM w B x w' v') (h0 : SrA w B x v) (hg : Grew w0 w) (hB : w0.heap.size ≤ B) : Grew w0 w' := by
  obtain ⟨x', -, -, hu, -⟩ := h.out
  exact hg.then_own hu fun b hb => Nat.le_trans hB (h0.foot hb).1

def awL : List OpV := [⟨1, 0, 4617315517961601024⟩, ⟨11, 3, 0⟩]
def awV1 : SrcV := ((srcNew 2 awL).produce 0 ⟨7, 4607182418800017408⟩).1
def awV2 : SrcV := (awV1.produce 0 ⟨9, 4620693217682128896⟩).1
theorem aw_facts : checkB awL = true ∧ ((srcNew 2 awL).produce 0 ⟨7, 4607182418800017408⟩).2 = 0 ∧ (awV1.produce 0 ⟨9, 4620693217682128896⟩).2 = 0 ∧ awV2.read 0 1 9 = ([⟨9, 4620693217682128896⟩], 0) ∧ awV2.produce 2 ⟨0, 0⟩ = (awV2, 60) ∧ awV2.len 0 = 2 ∧ awV2.keys = [1] ∧ awV2.up 1 = true ∧ awV2.parts.length = 2 ∧ (awV2.log 0).length = 2 := by
  decide +kernel
theorem aw_sort : sortL [1] = [1] := by decide +kernel

theorem awakeS_ok {w : World} : CallsW Tryz.prog 4 [] w (Rets fun v w' => v = .bool true ∧ Grew w w') := by
  refine sx4.ok ?_
  unfold sx4
  obtain ⟨f1, f2, f3, f4, f5, f6, f7, f8, f9, f10⟩ := aw_facts
  have fr : ∀ k x : Nat, k < 100 → x < 18446744073709551616 → RecV.Fits ⟨(k : Int), x⟩ := fun k x h h2 => ⟨⟨by simp, by simp only [u64m]; omega⟩, h2⟩
  intro b1 w2 hal2
  have ho := Own.alloc (E := Enc.op3) (l := awL) hal2 (Nat.le_refl _) rfl (by simp [awL, maxLen])
  have hfl : ∀ o ∈ awL, o.Fits := by
    intro o ho
    simp only [awL, List.mem_cons, List.not_mem_nil, or_false] at ho
    rcases ho with rfl | rfl <;> exact ⟨by simp, by simp, by simp⟩
  refine (SNew_ok ho.reads hfl).use fun v w3 ⟨hg3, hv⟩ => ?_
  rcases hv with ⟨h, -⟩ | ⟨-, h, -⟩ | ⟨-, -, x, hv, hS⟩
  · omega
  · rw [f1] at h; cases h
  subst hv
  have hS : SrA w3 w2.heap.size x (srcNew 2 awL) := hS
  have hg3' := hal2.grew.trans hg3
  have hB : w.heap.size ≤ w2.heap.size := hal2.grew.size
  have hB3 : w2.heap.size ≤ w3.heap.size := hg3.size
  refine ⟨_, _, rfl, fun h => (by cases h), fun _ => ⟨fun h => (by simp at h), fun _ => ?_⟩⟩
  refine (Produce_ok (p := 0) (r := ⟨7, 4607182418800017408⟩) hS (fr 7 _ (by omega) (by omega)) hB3).use fun v w8 ⟨hv, hM⟩ => ?_
  subst hv
  have hg8 := hM.grew hS hg3' hB
  obtain ⟨x8, hS8, hp8, -, -⟩ := hM.out
  have hS8 : SrA w8 w2.heap.size x8 awV1 := hS8
  refine ⟨_, rfl, ?_⟩
  rw [← hp8]
  have q8 : w2.heap.size ≤ w8.heap.size := by have := hS8.foot (.inl rfl); omega
  refine (Produce_ok (p := 0) (r := ⟨9, 4620693217682128896⟩) hS8 (fr 9 _ (by omega) (by omega)) q8).use fun v w12 ⟨hv, hM⟩ => ?_
  subst hv
  have hg12 := hM.grew hS8 hg8 hB
  obtain ⟨x12, hS12, hp12, -, -⟩ := hM.out
  have hS12 : SrA w12 w2.heap.size x12 awV2 := hS12
  refine ⟨_, rfl, ?_⟩
  rw [← hp12]
  have q12 : w2.heap.size ≤ w12.heap.size := by have := hS12.foot (.inl rfl); omega
  refine (SRead_ok hS12).use fun v w16 ⟨a18, l18, c18, hv, ho18, hg16⟩ => ?_
  subst hv
  rw [f4] at ho18
  have hS16 := hS12.grew hg16
  have hg16' := hg12.trans hg16
  have e4 : (awV2.read 0 1 9).2 = 0 := by rw [f4]
  refine ⟨_, _, _, _, rfl, ?_⟩
  rw [f2, e4]
  have e3 : (awV1.produce 0 ⟨9, 4620693217682128896⟩).2 = 0 := f3
  rw [e3]
  refine ⟨fun _ => ⟨fun _ => ?_, fun h => (by simp at h)⟩, fun h => (by simp at h)⟩
  refine (Produce_ok (p := 2) (r := ⟨0, 0⟩) hS16 (fr 0 0 (by omega) (by omega)) (Nat.le_trans q12 hg16.size)).use fun v w21 ⟨hv, hM⟩ => ?_
  subst hv
  have hg21 := hM.grew hS16 hg16' hB
  obtain ⟨x21, hS21, hp21, hu21, -⟩ := hM.out
  rw [f5] at hS21
  have hS21 : SrA w21 w2.heap.size x21 awV2 := hS21
  have ho21 := ho18.upd hu21 fun b hb hf => by
    have h1 := (ho18.blk hb).1
    have h2 := (hS12.foot hf).2
    omega
  refine ⟨_, rfl, ?_⟩
  rw [f5, ← hp21]
  refine ⟨fun _ => (SLen_ok hS21).use fun v w25 ⟨hv, hw⟩ => ?_, fun h => (by simp at h)⟩
  subst hv; subst hw
  refine ⟨_, rfl, ?_⟩
  rw [f6]
  refine ⟨fun _ => ⟨fun _ b29 w30 hal30 => ?_, fun h => (by simp at h)⟩, fun h => (by simp at h)⟩
  have hx30 := Own.alloc (E := Enc.rcd) (l := [⟨9, 4620693217682128896⟩]) hal30 (Nat.le_refl _) rfl (by simp [maxLen])
  refine (records_ok (ho21.grew hal30.grew).reads hx30.reads (by simp)).use fun v w31 ⟨hv, hg31⟩ => ?_
  subst hv
  have hg31' := hg21.trans (hal30.grew.trans hg31)
  have hS31 := (hS21.grew hal30.grew).grew hg31
  refine ⟨_, rfl, fun _ => (SKeys_ok hS31).use fun v w35 ⟨a37, l37, c37, hv, ho35, hg35⟩ => ?_, fun h => (by cases h)⟩
  subst hv
  rw [f7, aw_sort] at ho35
  refine ⟨_, _, _, rfl, fun b39 w40 hal40 => ?_⟩
  have hx40 := Own.alloc (E := Enc.int .u64) (l := [1]) hal40 (Nat.le_refl _) rfl (by simp [maxLen])
  refine (lkeys_ok (ho35.grew hal40.grew).reads hx40.reads (by simp)).use fun v w41 ⟨hv, hg41⟩ => ?_
  subst hv
  have hg41' := hg31'.trans (hg35.trans (hal40.grew.trans hg41))
  have hS41 := ((hS31.grew hg35).grew hal40.grew).grew hg41
  refine ⟨_, rfl, fun _ => (Up_ok hS41).use fun v w45 ⟨hv, hw⟩ => ?_, fun h => (by cases h)⟩
  subst hv; subst hw
  refine ⟨_, rfl, fun _ => (SParts_ok hS41).use fun v w49 ⟨hv, hw⟩ => ?_, fun h => (by rw [f8] at h; cases h)⟩
  subst hv; subst hw
  refine ⟨_, rfl, ?_⟩
  rw [f9]
  refine ⟨fun _ => (Log_ok hS41).use fun v w53 ⟨a55, l55, c55, hv, ho53, hg53⟩ => ?_, fun h => (by simp at h)⟩
  subst hv
  have hl : l55 = 2 := by rw [ho53.len, f10]
  subst hl
  exact ⟨_, _, _, rfl, _, rfl, rfl, hg41'.trans hg53⟩

theorem item_cells {w : World} {d : Addr} {x : ItemV} {k : Nat} (h : CellsAt w (d.add (k * Enc.item.sz)) 0 (Enc.item.f x)) :
    w.cell? (Addr.add d (((k : Nat) : Int).toNat * 3)) = some (.int .i64 x.p) ∧ CellsAt w (Addr.add (Addr.add d (((k : Nat) : Int).toNat * 3)) 1) 0 [.int .u64 x.r.key, .float .f64 x.r.val] := by
  refine ⟨?_, cellsAt_of fun j u hj => ?_⟩
  · have := cellsAt_get h 0 _ rfl; simpa [Enc.item, Addr.add_zero'] using this
  · have := cellsAt_get h (1 + j) u (by simpa [Enc.item, Nat.add_comm] using hj)
    simpa [Enc.item, Addr.add_add, Nat.add_comm, Nat.add_left_comm, Nat.add_assoc] using this


/-! ### what the law's arguments are made of -/
structure Op7V where
  kind : Int
  on : Int
  p : Int
  fr : Int
  most : Int
  r : RecV
def Enc.op7 : Enc Op7V := ⟨7, fun o => [.int .i64 o.kind, .int .i64 o.on, .int .i64 o.p, .int .i64 o.fr, .int .i64 o.most, .int .u64 o.r.key, .float .f64 o.r.val], fun _ => rfl, by decide, fun x v h => by simp at h; rcases h with rfl | rfl | rfl | rfl | rfl | rfl | rfl <;> rfl⟩
theorem op3_kinds : kinds2 Tryz.prog 8 53 = some [.int .i64, .int .i64, .float .f64] := by kernel_rfl
theorem op7_kinds : kinds2 Tryz.prog 8 40 = some [.int .i64, .int .i64, .int .i64, .int .i64, .int .i64, .int .u64, .float .f64] := by kernel_rfl
section
variable {H : Type} {enc : TypeId × Value → H}
theorem op3_of {S : TypeId → Value → Prop} (cs : List Value) (h : AllK2 S [.int .i64, .int .i64, .float .f64] cs) : ∃ x : OpV, cs = Enc.op3.f x ∧ x.Fits := by
  obtain ⟨hl, h⟩ := h
  match cs, hl with
  | [c0, c1, c2], _ =>
    obtain ⟨_, e0, n0, rfl, w0⟩ := h 0 _ rfl
    obtain ⟨_, e1, n1, rfl, w1⟩ := h 1 _ rfl
    obtain ⟨_, e2, n2, rfl, w2⟩ := h 2 _ rfl
    simp at e0 e1 e2; subst e0; subst e1; subst e2
    refine ⟨⟨n0, n1, n2⟩, rfl, ?_⟩
    simp [Lit.wf, IntKind.min, IntKind.max, IntKind.signed, IntKind.bits] at w0 w1 w2
    refine ⟨⟨?_, ?_⟩, ⟨?_, ?_⟩, ?_⟩ <;> simp only <;> omega
theorem op7_of {S : TypeId → Value → Prop} (cs : List Value) (h : AllK2 S [.int .i64, .int .i64, .int .i64, .int .i64, .int .i64, .int .u64, .float .f64] cs) : ∃ x : Op7V, cs = Enc.op7.f x ∧ x.r.Fits := by
  obtain ⟨hl, h⟩ := h
  match cs, hl with
  | [c0, c1, c2, c3, c4, c5, c6], _ =>
    obtain ⟨_, e0, n0, rfl, w0⟩ := h 0 _ rfl
    obtain ⟨_, e1, n1, rfl, w1⟩ := h 1 _ rfl
    obtain ⟨_, e2, n2, rfl, w2⟩ := h 2 _ rfl
    obtain ⟨_, e3, n3, rfl, w3⟩ := h 3 _ rfl
    obtain ⟨_, e4, n4, rfl, w4⟩ := h 4 _ rfl
    obtain ⟨_, e5, n5, rfl, w5⟩ := h 5 _ rfl
    obtain ⟨_, e6, n6, rfl, w6⟩ := h 6 _ rfl
    simp at e0 e1 e2 e3 e4 e5 e6; subst e0; subst e1; subst e2; subst e3; subst e4; subst e5; subst e6
    refine ⟨⟨n0, n1, n2, n3, n4, ⟨n5, n6⟩⟩, rfl, ?_⟩
    simp [Lit.wf, IntKind.min, IntKind.max, IntKind.signed, IntKind.bits] at w5 w6
    refine ⟨⟨?_, ?_⟩, ?_⟩ <;> simp only [u64m] <;> omega
end
end Go.Proofs.YtifhpmmdfjmppaaGreat
