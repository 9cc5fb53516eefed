/- The law's flights and awake. Conditions: none. -/
import Derived.Test.YtlkfkcgnlnbdeaaProg
import Derived.Test.YtlkfkcgnlnbdeaaNetD
namespace Go.Proofs.Ytlkfkcgnlnbdeaa
open Go.Sx
set_option maxRecDepth 100000
set_option linter.unusedVariables false
set_option linter.unusedSimpArgs false
/- reprise/repriselaw16.flights -/
def sx11 (a : Option Addr) (a_n a_c : Nat) (b : Option Addr) (b_n b_c : Nat) (R : Ending → World → Prop) (w : World) : Prop :=
  (((((a_n : Nat) : Int) != ((b_n : Nat) : Int)) = true → R (.returned (.bool false)) w) ∧ ((((a_n : Nat) : Int) != ((b_n : Nat) : Int)) = false → ∃ (I1 : Int → World → Prop) (m1 : Int → World → Nat), I1 0 w ∧ ∀ (n2 : Int)
    (w3 : World), I1 n2 w3 → (((decide (n2 < ((a_n : Nat) : Int))) = true → ∀ w4, Grew w3 w4 → withSome a (fun d5 => (0 ≤ n2 ∧ n2 < (a_n : Nat)) ∧ ∃ (n6 : Int), w4.cell? (Addr.add d5 (n2.toNat * 10)) = some (.int .i64 n6)
    ∧ withSome b (fun d7 => (0 ≤ n2 ∧ n2 < (b_n : Nat)) ∧ ∃ (n8 : Int), w4.cell? (Addr.add d7 (n2.toNat * 10)) = some (.int .i64 n8) ∧ (((n6 != n8) = true → R (.returned (.bool false)) w4) ∧ ((n6 != n8) = false → withSome
    a (fun d9 => (0 ≤ n2 ∧ n2 < (a_n : Nat)) ∧ ∃ (n10 : Int) (n11 : Int) (n12 : Int) (n13 : Int) (n14 : Int) (n15 : Int) (a16 : Option Addr) (l16 c16 : Nat) (a17 : Option Addr) (l17 c17 : Nat) (a18 : Option Addr) (l18 c18
    : Nat), CellsAt w4 (Addr.add (Addr.add d9 (n2.toNat * 10)) 1) 0 [.int .i64 n10, .int .i64 n11, .int .i64 n12, .int .i64 n13, .int .i64 n14, .int .i64 n15, .slice a16 l16 c16, .slice a17 l17 c17, .slice a18 l18 c18] ∧
    withSome b (fun d19 => (0 ≤ n2 ∧ n2 < (b_n : Nat)) ∧ ∃ (n20 : Int) (n21 : Int) (n22 : Int) (n23 : Int) (n24 : Int) (n25 : Int) (a26 : Option Addr) (l26 c26 : Nat) (a27 : Option Addr) (l27 c27 : Nat) (a28 : Option
    Addr) (l28 c28 : Nat), CellsAt w4 (Addr.add (Addr.add d19 (n2.toNat * 10)) 1) 0 [.int .i64 n20, .int .i64 n21, .int .i64 n22, .int .i64 n23, .int .i64 n24, .int .i64 n25, .slice a26 l26 c26, .slice a27 l27 c27, .slice
    a28 l28 c28] ∧ CallsW Try.prog 21 [.agg #[.int .i64 n10, .int .i64 n11, .int .i64 n12, .int .i64 n13, .int .i64 n14, .int .i64 n15, .slice a16 l16 c16, .slice a17 l17 c17, .slice a18 l18 c18], .agg #[.int .i64 n20,
    .int .i64 n21, .int .i64 n22, .int .i64 n23, .int .i64 n24, .int .i64 n25, .slice a26 l26 c26, .slice a27 l27 c27, .slice a28 l28 c28]] w4 (Ret (fun u30 w29 => ∃ (b31 : Bool), u30 = .bool b31 ∧ SameB w4 w29 [(Addr.add
    (Addr.add d19 (n2.toNat * 10)) 1), (Addr.add (Addr.add d9 (n2.toNat * 10)) 1), (Addr.add d7 (n2.toNat * 10)), (Addr.add d5 (n2.toNat * 10))] ∧ (((!b31) = true → R (.returned (.bool false)) w29) ∧ ((!b31) = false → (I1
    (IntKind.i64.wrap (n2 + 1)) w29 ∧ m1 (IntKind.i64.wrap (n2 + 1)) w29 < m1 n2 w3)))) (fun c32 w29 => False))))))))) ∧ ((decide (n2 < ((a_n : Nat) : Int))) = false → R (.returned (.bool true)) w3))))
theorem sx11.ok {a : Option Addr} {a_n a_c : Nat} {b : Option Addr} {b_n b_c : Nat} {R : Ending → World → Prop} {w : World} (h : sx11 a a_n a_c b b_n b_c R w) : CallsW Try.prog 11 [.slice a a_n a_c, .slice b b_n b_c] w R :=
  callsW_of mix Try.func11 (by kernel_rfl) (by kernel_rfl) (Eq.mpr (by kernel_rfl : denFn Try.prog { draws := [(6, { order := (.cons 0 (.cons 1 (.cons 2 (.cons 3 (.cons 4 (.cons 5 (.cons 6 (.cons 7 (.cons 8 (.cons 9 (.cons 10 (.cons 11 (.cons 12 (.cons 13 (.cons 14 (.cons 15 (.cons 16 (.cons 17 (.cons 18 (.cons 19 (.cons 20 (.cons 21 (.cons 22 (.cons 23 (.cons 24 .nil))))))))))))))))))))))))), bars := [] })], loops := [(4, { slots := [(5, .int .i64)], cells := [] })] } Try.f11 [.slice a a_n a_c, .slice b b_n b_c] R w = sx11 a a_n a_c b b_n b_c R w) h)

/- reprise/repriselaw16.awake -/
def sx7  (R : Ending → World → Prop) (w : World) : Prop :=
  CallsW Try.prog 8 [.int .i64 2] w (RetR R fun u2 w1 => ∃ (p3 : Option Addr) (n4 : Int), u2 = .tuple #[.pointer p3, .int .i64 n4] ∧ ∃ (J6 : Bool → World → Prop), ((((Option.isNone p3) = true → J6 true w1) ∧ ((Option.isNone
    p3) = false → J6 (n4 != 0) w1))) ∧ ∀ (b7 : Bool) (w8 : World), J6 b7 w8 → ((b7 = true → R (.returned (.bool false)) w8) ∧ (b7 = false → CallsW Try.prog 22 [.int .i64 1] w8 (RetR R fun u10 w9 => ∃ (n11 : Int) (n12 :
    Int) (n13 : Int) (n14 : Int) (n15 : Int) (n16 : Int) (a17 : Option Addr) (l17 c17 : Nat) (a18 : Option Addr) (l18 c18 : Nat) (a19 : Option Addr) (l19 c19 : Nat), u10 = .agg #[.int .i64 n11, .int .i64 n12, .int .i64
    n13, .int .i64 n14, .int .i64 n15, .int .i64 n16, .slice a17 l17 c17, .slice a18 l18 c18, .slice a19 l19 c19] ∧ CallsW Try.prog 16 [.pointer p3, .agg #[.int .i64 n11, .int .i64 n12, .int .i64 n13, .int .i64 n14, .int
    .i64 n15, .int .i64 n16, .slice a17 l17 c17, .slice a18 l18 c18, .slice a19 l19 c19]] w9 (RetR R fun u22 w21 => ∃ (n23 : Int) (n24 : Int), u22 = .tuple #[.int .i64 n23, .int .i64 n24] ∧ CallsW Try.prog 22 [.int .i64
    2] w21 (RetR R fun u27 w26 => ∃ (n28 : Int) (n29 : Int) (n30 : Int) (n31 : Int) (n32 : Int) (n33 : Int) (a34 : Option Addr) (l34 c34 : Nat) (a35 : Option Addr) (l35 c35 : Nat) (a36 : Option Addr) (l36 c36 : Nat), u27
    = .agg #[.int .i64 n28, .int .i64 n29, .int .i64 n30, .int .i64 n31, .int .i64 n32, .int .i64 n33, .slice a34 l34 c34, .slice a35 l35 c35, .slice a36 l36 c36] ∧ CallsW Try.prog 16 [.pointer p3, .agg #[.int .i64 n28,
    .int .i64 n29, .int .i64 n30, .int .i64 n31, .int .i64 n32, .int .i64 n33, .slice a34 l34 c34, .slice a35 l35 c35, .slice a36 l36 c36]] w26 (RetR R fun u39 w38 => ∃ (n40 : Int) (n41 : Int), u39 = .tuple #[.int .i64
    n40, .int .i64 n41] ∧ CallsW Try.prog 22 [.int .i64 3] w38 (RetR R fun u44 w43 => ∃ (n45 : Int) (n46 : Int) (n47 : Int) (n48 : Int) (n49 : Int) (n50 : Int) (a51 : Option Addr) (l51 c51 : Nat) (a52 : Option Addr) (l52
    c52 : Nat) (a53 : Option Addr) (l53 c53 : Nat), u44 = .agg #[.int .i64 n45, .int .i64 n46, .int .i64 n47, .int .i64 n48, .int .i64 n49, .int .i64 n50, .slice a51 l51 c51, .slice a52 l52 c52, .slice a53 l53 c53] ∧
    CallsW Try.prog 16 [.pointer p3, .agg #[.int .i64 n45, .int .i64 n46, .int .i64 n47, .int .i64 n48, .int .i64 n49, .int .i64 n50, .slice a51 l51 c51, .slice a52 l52 c52, .slice a53 l53 c53]] w43 (RetR R fun u56 w55 =>
    ∃ (n57 : Int) (n58 : Int), u56 = .tuple #[.int .i64 n57, .int .i64 n58] ∧ CallsW Try.prog 19 [.pointer p3, .int .i64 0] w55 (RetR R fun u61 w60 => ∃ (n62 : Int) (n63 : Int) (n64 : Int) (n65 : Int) (n66 : Int) (n67 :
    Int) (a68 : Option Addr) (l68 c68 : Nat) (a69 : Option Addr) (l69 c69 : Nat) (a70 : Option Addr) (l70 c70 : Nat) (n71 : Int), u61 = .tuple #[.agg #[.int .i64 n62, .int .i64 n63, .int .i64 n64, .int .i64 n65, .int .i64
    n66, .int .i64 n67, .slice a68 l68 c68, .slice a69 l69 c69, .slice a70 l70 c70], .int .i64 n71] ∧ ∀ w73, Grew w60 w73 → CallsW Try.prog 17 [.pointer p3, .int .i64 1] w73 (RetR R fun u75 w74 => ∃ (n76 : Int) (n77 :
    Int), u75 = .tuple #[.int .i64 n76, .int .i64 n77] ∧ ∀ w79, Grew w74 w79 → (((n23 == 0) = true → (((n24 == 0) = true → (((n40 == 1) = true → (((n41 == 0) = true → (((n58 == 160) = true → (((n71 == 0) = true → CallsW
    Try.prog 22 [.int .i64 1] w79 (Ret (fun u81 w80 => ∃ (n82 : Int) (n83 : Int) (n84 : Int) (n85 : Int) (n86 : Int) (n87 : Int) (a88 : Option Addr) (l88 c88 : Nat) (a89 : Option Addr) (l89 c89 : Nat) (a90 : Option Addr)
    (l90 c90 : Nat), u81 = .agg #[.int .i64 n82, .int .i64 n83, .int .i64 n84, .int .i64 n85, .int .i64 n86, .int .i64 n87, .slice a88 l88 c88, .slice a89 l89 c89, .slice a90 l90 c90] ∧ SameB w79 w80 [] ∧ CallsW Try.prog
    21 [.agg #[.int .i64 n62, .int .i64 n63, .int .i64 n64, .int .i64 n65, .int .i64 n66, .int .i64 n67, .slice a68 l68 c68, .slice a69 l69 c69, .slice a70 l70 c70], .agg #[.int .i64 n82, .int .i64 n83, .int .i64 n84,
    .int .i64 n85, .int .i64 n86, .int .i64 n87, .slice a88 l88 c88, .slice a89 l89 c89, .slice a90 l90 c90]] w80 (Ret (fun u93 w92 => ∃ (b94 : Bool), u93 = .bool b94 ∧ SameB w80 w92 [] ∧ ((b94 = true → (((n76 == 2) =
    true → (((n77 == 0) = true → CallsW Try.prog 14 [.pointer p3] w92 (Ret (fun u97 w96 => ∃ (n98 : Int), u97 = .int .i64 n98 ∧ SameB w92 w96 [] ∧ (((n98 == 3) = true → CallsW Try.prog 12 [.pointer p3] w96 (Ret (fun u101
    w100 => ∃ (a102 : Option Addr) (l102 c102 : Nat), u101 = .slice a102 l102 c102 ∧ SameB w96 w100 [] ∧ CallsW Try.prog 22 [.int .i64 2] w100 (Ret (fun u105 w104 => ∃ (n106 : Int) (n107 : Int) (n108 : Int) (n109 : Int)
    (n110 : Int) (n111 : Int) (a112 : Option Addr) (l112 c112 : Nat) (a113 : Option Addr) (l113 c113 : Nat) (a114 : Option Addr) (l114 c114 : Nat), u105 = .agg #[.int .i64 n106, .int .i64 n107, .int .i64 n108, .int .i64
    n109, .int .i64 n110, .int .i64 n111, .slice a112 l112 c112, .slice a113 l113 c113, .slice a114 l114 c114] ∧ SameB w100 w104 [] ∧ CallsW Try.prog 22 [.int .i64 2] w104 (Ret (fun u117 w116 => ∃ (n118 : Int) (n119 :
    Int) (n120 : Int) (n121 : Int) (n122 : Int) (n123 : Int) (a124 : Option Addr) (l124 c124 : Nat) (a125 : Option Addr) (l125 c125 : Nat) (a126 : Option Addr) (l126 c126 : Nat), u117 = .agg #[.int .i64 n118, .int .i64
    n119, .int .i64 n120, .int .i64 n121, .int .i64 n122, .int .i64 n123, .slice a124 l124 c124, .slice a125 l125 c125, .slice a126 l126 c126] ∧ SameB w104 w116 [] ∧ ∀ (b128 : Nat) (w129 : World), Alloc w116 w129 b128
    (.cells #[.int .i64 1, .int .i64 n106, .int .i64 n107, .int .i64 n108, .int .i64 n109, .int .i64 n110, .int .i64 n111, .slice a112 l112 c112, .slice a113 l113 c113, .slice a114 l114 c114, .int .i64 2, .int .i64 n118,
    .int .i64 n119, .int .i64 n120, .int .i64 n121, .int .i64 n122, .int .i64 n123, .slice a124 l124 c124, .slice a125 l125 c125, .slice a126 l126 c126] 55) → SameB w116 w129 [] ∧ CallsW Try.prog 11 [.slice a102 l102
    c102, .slice (some ⟨b128, 0, none⟩) 2 2] w129 (Ret (fun u131 w130 => ∃ (b132 : Bool), u131 = .bool b132 ∧ SameB w129 w130 [] ∧ ((b132 = true → CallsW Try.prog 20 [.pointer p3, .int .i64 1] w130 (Ret (fun u135 w134 =>
    ∃ (n136 : Int), u135 = .int .i64 n136 ∧ SameB w130 w134 [] ∧ (((n136 == 0) = true → CallsW Try.prog 20 [.pointer p3, .int .i64 9] w134 (Ret (fun u139 w138 => ∃ (n140 : Int), u139 = .int .i64 n140 ∧ SameB w134 w138 []
    ∧ R (.returned (.bool (n140 == 161))) w138) (fun c141 w138 => False))) ∧ ((n136 == 0) = false → R (.returned (.bool false)) w134))) (fun c137 w134 => False))) ∧ (b132 = false → R (.returned (.bool false)) w130))) (fun
    c133 w130 => False))) (fun c127 w116 => False))) (fun c115 w104 => False))) (fun c103 w100 => False))) ∧ ((n98 == 3) = false → R (.returned (.bool false)) w96))) (fun c99 w96 => False))) ∧ ((n77 == 0) = false → R
    (.returned (.bool false)) w92))) ∧ ((n76 == 2) = false → R (.returned (.bool false)) w92))) ∧ (b94 = false → R (.returned (.bool false)) w92))) (fun c95 w92 => False))) (fun c91 w80 => False))) ∧ ((n71 == 0) = false →
    R (.returned (.bool false)) w79))) ∧ ((n58 == 160) = false → R (.returned (.bool false)) w79))) ∧ ((n41 == 0) = false → R (.returned (.bool false)) w79))) ∧ ((n40 == 1) = false → R (.returned (.bool false)) w79))) ∧
    ((n24 == 0) = false → R (.returned (.bool false)) w79))) ∧ ((n23 == 0) = false → R (.returned (.bool false)) w79)))))))))))))
theorem sx7.ok  {R : Ending → World → Prop} {w : World} (h : sx7  R w) : CallsW Try.prog 7 [] w R :=
  callsW_of mix Try.func7 (by kernel_rfl) (by kernel_rfl) (Eq.mpr (by kernel_rfl : denFn Try.prog { locals := [8], draws := [(9, { order := (.cons 0 (.cons 1 (.cons 2 (.cons 3 (.cons 4 (.cons 5 (.cons 6 (.cons 7 (.cons 8 (.cons 9 (.cons 10 (.cons 11 (.cons 12 (.cons 13 (.cons 14 (.cons 15 (.cons 16 (.cons 17 (.cons 18 (.cons 19 (.cons 20 (.cons 21 (.cons 22 (.cons 23 (.cons 24 (.cons 25 (.cons 26 (.cons 27 (.cons 28 (.cons 29 (.cons 30 (.cons 31 (.cons 32 (.cons 33 (.cons 34 (.cons 35 (.cons 36 (.cons 37 (.cons 38 (.cons 39 (.cons 40 (.cons 41 (.cons 42 (.cons 43 (.cons 44 (.cons 45 (.cons 46 (.cons 47 (.cons 48 (.cons 49 (.cons 50 (.cons 51 (.cons 52 (.cons 53 (.cons 54 (.cons 55 (.cons 56 (.cons 57 (.cons 58 (.cons 59 (.cons 60 .nil))))))))))))))))))))))))))))))))))))))))))))))))))))))))))))), bars := [] })], cuts := [(3, { slots := [(21, .bool)], cells := [] })] } Try.f7 [] R w = sx7  R w) h)


/-- flights that can be read -/
structure FlAt (w : World) (a : Option Addr) (n c : Nat) (L : List (Int × Msg)) : Prop where
  r : Reads w Enc.flight (a, n, c) L
  at_ : ∀ x ∈ L, x.2.At w
theorem FlAt.grew {w w' : World} {a : Option Addr} {n c : Nat} {L : List (Int × Msg)} (h : FlAt w a n c L) (hg : Grew w w') : FlAt w' a n c L := ⟨h.r.grew hg, fun x hx => (h.at_ x hx).grew hg⟩

theorem fl_cells {w : World} {d : Addr} {x : Int × Msg} {k : Nat} (h : CellsAt w (d.add (k * Enc.flight.sz)) 0 (Enc.flight.f x)) :
    w.cell? (Addr.add d (((k : Nat) : Int).toNat * 10)) = some (.int .i64 x.1) ∧ CellsAt w (Addr.add (Addr.add d (((k : Nat) : Int).toNat * 10)) 1) 0 x.2.vals := by
  have h1 := h.1
  refine ⟨by simpa [Enc.flight, Addr.add_zero'] using h1, ?_⟩
  have h2 := h.2
  exact cellsAt_of fun j u hj => by
    have := cellsAt_get h2 j u hj
    simpa [Addr.add_add, Enc.flight, Nat.add_assoc, Nat.add_comm, Nat.add_left_comm] using this

theorem flights_ok {a b : Option Addr} {n c m d : Nat} {La Lb : List (Int × Msg)} {w : World} (ha : FlAt w a n c La) (hb : FlAt w b m d Lb) (hc : conts La = conts Lb) (hok : ∀ x ∈ La, soundMsg x.2.c = true ∧ x.2.c.Fits) (hl : La.length ≤ 9223372036854775806) :
    CallsW Try.prog 11 [.slice a n c, .slice b m d] w (Rets fun v w' => v = .bool true ∧ Grew w w') := by
  refine sx11.ok ?_
  unfold sx11
  have hn : n = La.length := ha.r.2.1
  have hm : m = Lb.length := hb.r.2.1
  have hab : La.length = Lb.length := by have := congrArg List.length hc; rwa [conts_len, conts_len] at this
  refine ⟨fun h => (by simp at h; omega), fun _ => ⟨fun i w' => ∃ k : Nat, i = k ∧ k ≤ n ∧ Grew w w', fun i _ => n - i.toNat, ⟨0, rfl, Nat.zero_le _, Grew.refl _⟩, ?_⟩⟩
  rintro i w3 ⟨k, rfl, hk, hg3⟩
  refine ⟨fun hlt w4 hg4 => ?_, fun hge => ⟨_, rfl, rfl, hg3⟩⟩
  simp only [decide_eq_true_eq] at hlt
  have hg4' := hg3.trans hg4
  obtain ⟨da, x, rfl, hx, hxc⟩ := (ha.grew hg4').r.at0 (k := k) (by omega)
  obtain ⟨db, y, rfl, hy, hyc⟩ := (hb.grew hg4').r.at0 (k := k) (by omega)
  obtain ⟨x1, x2⟩ := fl_cells hxc
  obtain ⟨y1, y2⟩ := fl_cells hyc
  have hxy : (x.1, x.2.c) = (y.1, y.2.c) := by
    have h1 : (conts La)[k]? = some (x.1, x.2.c) := by simp [conts, hx]
    have h2 : (conts Lb)[k]? = some (y.1, y.2.c) := by simp [conts, hy]
    rw [hc, h2] at h1; exact (Option.some.inj h1).symm
  have hx1 : x.1 = y.1 := (Prod.mk.inj hxy).1
  have hx2 : x.2.c = y.2.c := (Prod.mk.inj hxy).2
  have hxm := List.mem_of_getElem? hx
  have hsm := soundMsg_small (hok x hxm).1
  have hw : IntKind.i64.wrap ((k : Int) + 1) = ((k + 1 : Nat) : Int) := by rw [IntKind.wrap_i64]; omega
  rw [hw]
  refine ⟨⟨by omega, by omega⟩, _, x1, ⟨by omega, by omega⟩, _, y1, fun h => (by rw [hx1] at h; simp at h), fun _ => ⟨⟨by omega, by omega⟩, _, _, _, _, _, _, _, _, _, _, _, _, _, _, _, x2, ⟨by omega, by omega⟩, _, _, _, _, _, _, _, _, _, _, _, _, _, _, _, y2, ?_⟩⟩
  refine (same_ok (x := x.2) (y := y.2) ((ha.at_ x hxm).grew hg4') ((hb.at_ y (List.mem_of_getElem? hy)).grew hg4') hx2 (hok x hxm).2 (by omega) (by omega) (by omega)).use' fun v w29 ⟨hv, hg29⟩ => ?_
  subst hv
  refine ⟨_, rfl, ?_, fun h => (by cases h), fun _ => ⟨⟨k + 1, rfl, by omega, hg4'.trans hg29⟩, by show n - (((k + 1 : Nat) : Int)).toNat < n - ((k : Int)).toNat; omega⟩⟩
  have l1 := World.block_lt_of_cell? w4 _ x1
  have l2 := World.block_lt_of_cell? w4 _ y1
  have a1 := hg29.block _ l1
  have a2 := hg29.block _ l2
  refine ⟨a2, a1, a2, a1, trivial⟩

theorem laid_sound {b : Int} (h : 1 ≤ b ∧ b ≤ 1099511627776) : soundMsg (laidM b).c = true := by
  rw [soundMsg_iff]
  simp [laidM, fieldM, endsB, risingK, soundP]; omega
theorem laid_fits {b : Int} (h : 1 ≤ b ∧ b ≤ 1099511627776) : (laidM b).c.Fits := by
  refine ⟨?_, by simp [laidM], by simp [laidM], by simp [laidM]⟩
  intro x hx
  simp [laidM] at hx
  omega
end Go.Proofs.Ytlkfkcgnlnbdeaa
