/- What package slices hands back at cells: Clone, Insert, IndexFunc, DeleteFunc, BinarySearchFunc. Conditions: none. -/
import Derived.Test.YtnbknhcpjggabaaProg
import Derived.Test.YtnbknhcpjggabaaBucket4
import Derived.Lib.Overlaps
namespace Go.Proofs.Ytnbknhcpjggabaa
open Go.Sx
set_option maxRecDepth 100000
set_option linter.unusedVariables false
set_option linter.unusedSimpArgs false
/- slices.Clone[[]reprise/api.Cell,reprise/api.Cell] -/
def sx38 (s : Option Addr) (s_n s_c : Nat) (R : Ending → World → Prop) (w : World) : Prop :=
  (((Option.isNone s) = true → R (.returned (.slice none 0 0)) w) ∧ ((Option.isNone s) = false → ∀ (b1 : Nat) (w2 : World), Alloc w w2 b1 (.cells #[] 37) → SemW Try.prog (Builtin.append_ #[22, 22] 22 #[.slice (some ⟨b1, 0,
    none⟩) 0 0, .slice s s_n s_c]) (fun u4 w3 => ∃ (a5 : Option Addr) (l5 c5 : Nat), u4 = .slice a5 l5 c5 ∧ R (.returned (.slice a5 l5 c5)) w3) w2))
theorem sx38.ok {s : Option Addr} {s_n s_c : Nat} {R : Ending → World → Prop} {w : World} (h : sx38 s s_n s_c R w) : CallsW Try.prog 38 [.slice s s_n s_c] w R :=
  callsW_of mix Try.func38 (by kernel_rfl) (by kernel_rfl) (Eq.mpr (by kernel_rfl : denFn Try.prog { sem := [7] } Try.f38 [.slice s s_n s_c] R w = sx38 s s_n s_c R w) h)

/- slices.Insert[[]reprise/api.Cell,reprise/api.Cell] -/
def sx39 (d : Option Addr) (d_n d_c : Nat) (i : Int) (p2 : Option Addr) (p2_n p2_c : Nat) (R : Ending → World → Prop) (w : World) : Prop :=
  (0 ≤ i ∧ i ≤ (d_n : Nat)) ∧ (((((p2_n : Nat) : Int) == 0) = true → R (.returned (.slice d d_n d_c)) w) ∧ ((((p2_n : Nat) : Int) == 0) = false → (((i == ((d_n : Nat) : Int)) = true → SemW Try.prog (Builtin.append_ #[22,
    22] 22 #[.slice d d_n d_c, .slice p2 p2_n p2_c]) (fun u2 w1 => ∃ (a3 : Option Addr) (l3 c3 : Nat), u2 = .slice a3 l3 c3 ∧ R (.returned (.slice a3 l3 c3)) w1) w) ∧ ((i == ((d_n : Nat) : Int)) = false → ∀ n4 : Int, n4 =
    IntKind.i64.wrap (((d_n : Nat) : Int) + ((p2_n : Nat) : Int)) → (((decide (n4 > ((d_c : Nat) : Int))) = true → (0 ≤ i ∧ i ≤ (d_c : Nat)) ∧ ∀ n5 : Int, n5 = IntKind.i64.wrap (((d_n : Nat) : Int) + ((p2_n : Nat) : Int))
    → SemW Try.prog (Builtin.append_ #[22, 3] 22 #[.slice d i.toNat d_c, .int .i64 (IntKind.i64.wrap (n5 - i))]) (fun u7 w6 => ∃ (a8 : Option Addr) (l8 c8 : Nat), u7 = .slice a8 l8 c8 ∧ (0 ≤ i ∧ i ≤ (l8 : Nat)) ∧ SemW
    Try.prog (Builtin.copy_ #[22, 22] 3 #[.slice (if c8 = i.toNat then a8 else Option.map (fun x => Addr.add x (i.toNat * 6)) a8) (l8 - i.toNat) (c8 - i.toNat), .slice p2 p2_n p2_c]) (fun u10 w9 => ∃ (n11 : Int), u10 =
    .int .i64 n11 ∧ ∀ w12, Grew w9 w12 → ∀ n13 : Int, n13 = IntKind.i64.wrap (i + ((p2_n : Nat) : Int)) → (0 ≤ n13 ∧ n13 ≤ (l8 : Nat)) ∧ (0 ≤ i ∧ i ≤ (d_n : Nat)) ∧ SemW Try.prog (Builtin.copy_ #[22, 22] 3 #[.slice (if c8
    = n13.toNat then a8 else Option.map (fun x => Addr.add x (n13.toNat * 6)) a8) (l8 - n13.toNat) (c8 - n13.toNat), .slice (if d_c = i.toNat then d else Option.map (fun x => Addr.add x (i.toNat * 6)) d) (d_n - i.toNat)
    (d_c - i.toNat)]) (fun u15 w14 => ∃ (n16 : Int), u15 = .int .i64 n16 ∧ SameB w12 w14 [] ∧ R (.returned (.slice a8 l8 c8)) w14) w12) w6) w) ∧ ((decide (n4 > ((d_c : Nat) : Int))) = false → ∀ n17 : Int, n17 =
    IntKind.i64.wrap (((d_n : Nat) : Int) + ((p2_n : Nat) : Int)) → (0 ≤ n17 ∧ n17 ≤ (d_c : Nat)) ∧ ∀ n18 : Int, n18 = IntKind.i64.wrap (i + ((p2_n : Nat) : Int)) → (0 ≤ n18 ∧ n18 ≤ (n17.toNat : Nat)) ∧ CallsW Try.prog 50
    [.slice p2 p2_n p2_c, .slice (if d_c = n18.toNat then d else Option.map (fun x => Addr.add x (n18.toNat * 6)) d) (n17.toNat - n18.toNat) (d_c - n18.toNat)] w (RetR R fun u20 w19 => ∃ (b21 : Bool), u20 = .bool b21 ∧
    (((!b21) = true → ∀ w23, Grew w19 w23 → ∀ n24 : Int, n24 = IntKind.i64.wrap (i + ((p2_n : Nat) : Int)) → (0 ≤ n24 ∧ n24 ≤ (n17.toNat : Nat)) ∧ (0 ≤ i ∧ i ≤ (n17.toNat : Nat)) ∧ SemW Try.prog (Builtin.copy_ #[22, 22] 3
    #[.slice (if d_c = n24.toNat then d else Option.map (fun x => Addr.add x (n24.toNat * 6)) d) (n17.toNat - n24.toNat) (d_c - n24.toNat), .slice (if d_c = i.toNat then d else Option.map (fun x => Addr.add x (i.toNat *
    6)) d) (n17.toNat - i.toNat) (d_c - i.toNat)]) (fun u26 w25 => ∃ (n27 : Int), u26 = .int .i64 n27 ∧ SameB w23 w25 [] ∧ (0 ≤ i ∧ i ≤ (n17.toNat : Nat)) ∧ SemW Try.prog (Builtin.copy_ #[22, 22] 3 #[.slice (if d_c =
    i.toNat then d else Option.map (fun x => Addr.add x (i.toNat * 6)) d) (n17.toNat - i.toNat) (d_c - i.toNat), .slice p2 p2_n p2_c]) (fun u29 w28 => ∃ (n30 : Int), u29 = .int .i64 n30 ∧ R (.returned (.slice d n17.toNat
    d_c)) w28) w25) w23) ∧ ((!b21) = false → (0 ≤ ((d_n : Nat) : Int) ∧ ((d_n : Nat) : Int) ≤ (n17.toNat : Nat)) ∧ SemW Try.prog (Builtin.copy_ #[22, 22] 3 #[.slice (if d_c = ((d_n : Nat) : Int).toNat then d else
    Option.map (fun x => Addr.add x (((d_n : Nat) : Int).toNat * 6)) d) (n17.toNat - ((d_n : Nat) : Int).toNat) (d_c - ((d_n : Nat) : Int).toNat), .slice p2 p2_n p2_c]) (fun u32 w31 => ∃ (n33 : Int), u32 = .int .i64 n33 ∧
    (0 ≤ i ∧ i ≤ (n17.toNat : Nat)) ∧ CallsW Try.prog 51 [.slice (if d_c = i.toNat then d else Option.map (fun x => Addr.add x (i.toNat * 6)) d) (n17.toNat - i.toNat) (d_c - i.toNat), .int .i64 ((p2_n : Nat) : Int)] w31
    (RetR R fun u35 w34 => u35 = .tuple #[] ∧ R (.returned (.slice d n17.toNat d_c)) w34)) w19)))))))))
theorem sx39.ok {d : Option Addr} {d_n d_c : Nat} {i : Int} {p2 : Option Addr} {p2_n p2_c : Nat} {R : Ending → World → Prop} {w : World} (h : sx39 d d_n d_c i p2 p2_n p2_c R w) : CallsW Try.prog 39 [.slice d d_n d_c, .int .i64 i, .slice p2 p2_n p2_c] w R :=
  callsW_of mix Try.func39 (by kernel_rfl) (by kernel_rfl) (Eq.mpr (by kernel_rfl : denFn Try.prog { sem := [25, 40, 45, 54, 77, 82, 88], named := [28, 37, 49, 59, 65, 72], draws := [(11, { order := (.cons 0 (.cons 1 (.cons 2 (.cons 3 (.cons 4 (.cons 5 (.cons 6 (.cons 7 (.cons 8 .nil))))))))), bars := [] }), (15, { order := (.cons 0 (.cons 1 (.cons 2 (.cons 3 (.cons 4 (.cons 5 (.cons 6 (.cons 7 (.cons 8 .nil))))))))), bars := [] })] } Try.f39 [.slice d d_n d_c, .int .i64 i, .slice p2 p2_n p2_c] R w = sx39 d d_n d_c i p2 p2_n p2_c R w) h)

/- slices.IndexFunc[[]reprise/api.Cell,reprise/api.Cell] -/
def sx52 (s : Option Addr) (s_n s_c : Nat) (f : Nat) (f_c : List Value) (R : Ending → World → Prop) (w : World) : Prop :=
  ∃ (I1 : Int → World → Prop) (m1 : Int → World → Nat), I1 0 w ∧ ∀ (n2 : Int) (w3 : World), I1 n2 w3 → (((decide (n2 < ((s_n : Nat) : Int))) = true → withSome s (fun d4 => (0 ≤ n2 ∧ n2 < (s_n : Nat)) ∧ ∃ (n5 : Int) (b6 :
    Bool) (n7 : Int) (b8 : Bool) (n9 : Int) (n10 : Int), CellsAt w3 (Addr.add d4 (n2.toNat * 6)) 0 [.int .u64 n5, .bool b6, .int .u64 n7, .bool b8, .int .u64 n9, .int .i64 n10] ∧ CallsW Try.prog f ([.agg #[.int .u64 n5,
    .bool b6, .int .u64 n7, .bool b8, .int .u64 n9, .int .i64 n10]] ++ f_c.toArray.toList) w3 (RetR R fun u12 w11 => ∃ (b13 : Bool), u12 = .bool b13 ∧ ((b13 = true → R (.returned (.int .i64 n2)) w11) ∧ (b13 = false → (I1
    (IntKind.i64.wrap (n2 + 1)) w11 ∧ m1 (IntKind.i64.wrap (n2 + 1)) w11 < m1 n2 w3)))))) ∧ ((decide (n2 < ((s_n : Nat) : Int))) = false → R (.returned (.int .i64 (-1))) w3))
theorem sx52.ok {s : Option Addr} {s_n s_c : Nat} {f : Nat} {f_c : List Value} {R : Ending → World → Prop} {w : World} (h : sx52 s s_n s_c f f_c R w) : CallsW Try.prog 52 [.slice s s_n s_c, .func (.func f) #[] f_c.toArray] w R :=
  callsW_of mix Try.func52 (by kernel_rfl) (by kernel_rfl) (Eq.mpr (by kernel_rfl : denFn Try.prog { loops := [(2, { slots := [(8, .int .i64)], cells := [] })] } Try.f52 [.slice s s_n s_c, .func (.func f) #[] f_c.toArray] R w = sx52 s s_n s_c f f_c R w) h)

/- slices.DeleteFunc[[]reprise/api.Cell,reprise/api.Cell] -/
def sx40 (s : Option Addr) (s_n s_c : Nat) (del : Nat) (del_c : List Value) (R : Ending → World → Prop) (w : World) : Prop :=
  CallsW Try.prog 52 [.slice s s_n s_c, .func (.func del) #[] del_c.toArray] w (RetR R fun u2 w1 => ∃ (n3 : Int), u2 = .int .i64 n3 ∧ (((n3 == (-1)) = true → R (.returned (.slice s s_n s_c)) w1) ∧ ((n3 == (-1)) = false → ∃
    (I5 : Int → Int → World → Prop) (m5 : Int → Int → World → Nat), I5 n3 (IntKind.i64.wrap (n3 + 1)) w1 ∧ ∀ (n6 : Int) (n7 : Int) (w8 : World), I5 n6 n7 w8 → (((decide (n7 < ((s_n : Nat) : Int))) = true → withSome s (fun
    d9 => (0 ≤ n7 ∧ n7 < (s_n : Nat)) ∧ ∃ (n10 : Int) (b11 : Bool) (n12 : Int) (b13 : Bool) (n14 : Int) (n15 : Int), CellsAt w8 (Addr.add d9 (n7.toNat * 6)) 0 [.int .u64 n10, .bool b11, .int .u64 n12, .bool b13, .int .u64
    n14, .int .i64 n15] ∧ ∀ w16, Grew w8 w16 → CallsW Try.prog del ([.agg #[.int .u64 n10, .bool b11, .int .u64 n12, .bool b13, .int .u64 n14, .int .i64 n15]] ++ del_c.toArray.toList) w16 (RetR R fun u18 w17 => ∃ (b19 :
    Bool), u18 = .bool b19 ∧ (((!b19) = true → withSome s (fun d21 => (0 ≤ n6 ∧ n6 < (s_n : Nat)) ∧ RoomAt w17 (Addr.add d21 (n6.toNat * 6)) 0 [.int .u64 n10, .bool b11, .int .u64 n12, .bool b13, .int .u64 n14, .int .i64
    n15] ∧ ∀ w22, w22 = setCells w17 (Addr.add d21 (n6.toNat * 6)) 0 [.int .u64 n10, .bool b11, .int .u64 n12, .bool b13, .int .u64 n14, .int .i64 n15] → (I5 (IntKind.i64.wrap (n6 + 1)) (IntKind.i64.wrap (n7 + 1)) w22 ∧
    m5 (IntKind.i64.wrap (n6 + 1)) (IntKind.i64.wrap (n7 + 1)) w22 < m5 n6 n7 w8))) ∧ ((!b19) = false → (I5 n6 (IntKind.i64.wrap (n7 + 1)) w17 ∧ m5 n6 (IntKind.i64.wrap (n7 + 1)) w17 < m5 n6 n7 w8)))))) ∧ ((decide (n7 <
    ((s_n : Nat) : Int))) = false → (0 ≤ n6 ∧ n6 ≤ (s_n : Nat)) ∧ SemW Try.prog (Builtin.clear_ #[22] 0 #[.slice (if s_c = n6.toNat then s else Option.map (fun x => Addr.add x (n6.toNat * 6)) s) (s_n - n6.toNat) (s_c -
    n6.toNat)]) (fun u24 w23 => u24 = .tuple #[] ∧ (0 ≤ n6 ∧ n6 ≤ (s_c : Nat)) ∧ R (.returned (.slice s n6.toNat s_c)) w23) w8)))))
theorem sx40.ok {s : Option Addr} {s_n s_c : Nat} {del : Nat} {del_c : List Value} {R : Ending → World → Prop} {w : World} (h : sx40 s s_n s_c del del_c R w) : CallsW Try.prog 40 [.slice s s_n s_c, .func (.func del) #[] del_c.toArray] w R :=
  callsW_of mix Try.func40 (by kernel_rfl) (by kernel_rfl) (Eq.mpr (by kernel_rfl : denFn Try.prog { locals := [7], loops := [(5, { slots := [(5, .int .i64), (6, .int .i64)], cells := [] })] } Try.f40 [.slice s s_n s_c, .func (.func del) #[] del_c.toArray] R w = sx40 s s_n s_c del del_c R w) h)

/- slices.BinarySearchFunc[[]reprise/api.Cell,reprise/api.Cell,uint64] -/
def sx34 (x : Option Addr) (x_n x_c : Nat) (target : Int) (cmp : Nat) (cmp_c : List Value) (R : Ending → World → Prop) (w : World) : Prop :=
  ∃ (I1 : Int → Int → World → Prop) (m1 : Int → Int → World → Nat), I1 0 ((x_n : Nat) : Int) w ∧ ∀ (n2 : Int) (n3 : Int) (w4 : World), I1 n2 n3 w4 → (((decide (n2 < n3)) = true → ∀ n5 : Int, n5 = IntKind.u64.wrap
    (IntKind.i64.wrap (n2 + n3)) → 0 ≤ (1 : Int) ∧ ∀ n6 : Int, n6 = Int.fdiv n5 (2 ^ (min (1 : Int).toNat (IntKind.bits .u64))) → withSome x (fun d7 => (0 ≤ (IntKind.i64.wrap n6) ∧ (IntKind.i64.wrap n6) < (x_n : Nat)) ∧ ∃
    (n8 : Int) (b9 : Bool) (n10 : Int) (b11 : Bool) (n12 : Int) (n13 : Int), CellsAt w4 (Addr.add d7 ((IntKind.i64.wrap n6).toNat * 6)) 0 [.int .u64 n8, .bool b9, .int .u64 n10, .bool b11, .int .u64 n12, .int .i64 n13] ∧
    CallsW Try.prog cmp ([.agg #[.int .u64 n8, .bool b9, .int .u64 n10, .bool b11, .int .u64 n12, .int .i64 n13], .int .u64 target] ++ cmp_c.toArray.toList) w4 (RetR R fun u15 w14 => ∃ (n16 : Int), u15 = .int .i64 n16 ∧
    (((decide (n16 < 0)) = true → ∀ n18 : Int, n18 = IntKind.i64.wrap ((IntKind.i64.wrap n6) + 1) → (I1 n18 n3 w14 ∧ m1 n18 n3 w14 < m1 n2 n3 w4)) ∧ ((decide (n16 < 0)) = false → (I1 n2 (IntKind.i64.wrap n6) w14 ∧ m1 n2
    (IntKind.i64.wrap n6) w14 < m1 n2 n3 w4)))))) ∧ ((decide (n2 < n3)) = false → (((decide (n2 < ((x_n : Nat) : Int))) = true → withSome x (fun d19 => (0 ≤ n2 ∧ n2 < (x_n : Nat)) ∧ ∃ (n20 : Int) (b21 : Bool) (n22 : Int)
    (b23 : Bool) (n24 : Int) (n25 : Int), CellsAt w4 (Addr.add d19 (n2.toNat * 6)) 0 [.int .u64 n20, .bool b21, .int .u64 n22, .bool b23, .int .u64 n24, .int .i64 n25] ∧ CallsW Try.prog cmp ([.agg #[.int .u64 n20, .bool
    b21, .int .u64 n22, .bool b23, .int .u64 n24, .int .i64 n25], .int .u64 target] ++ cmp_c.toArray.toList) w4 (RetR R fun u27 w26 => ∃ (n28 : Int), u27 = .int .i64 n28 ∧ R (.returned (.tuple #[.int .i64 n2, .bool (n28
    == 0)])) w26))) ∧ ((decide (n2 < ((x_n : Nat) : Int))) = false → R (.returned (.tuple #[.int .i64 n2, .bool false])) w4))))
theorem sx34.ok {x : Option Addr} {x_n x_c : Nat} {target : Int} {cmp : Nat} {cmp_c : List Value} {R : Ending → World → Prop} {w : World} (h : sx34 x x_n x_c target cmp cmp_c R w) : CallsW Try.prog 34 [.slice x x_n x_c, .int .u64 target, .func (.func cmp) #[] cmp_c.toArray] w R :=
  callsW_of mix Try.func34 (by kernel_rfl) (by kernel_rfl) (Eq.mpr (by kernel_rfl : denFn Try.prog { named := [21, 22, 33], loops := [(3, { slots := [(9, .int .i64), (10, .int .i64)], cells := [] })] } Try.f34 [.slice x x_n x_c, .int .u64 target, .func (.func cmp) #[] cmp_c.toArray] R w = sx34 x x_n x_c target cmp cmp_c R w) h)


theorem ez : (Try.prog.info? 37).map (fun i => (i.zero, i.size, i.bytes)) = some (some (.agg #[.int .u64 0, .bool false, .int .u64 0, .bool false, .int .u64 0, .int .i64 0]), Enc.cell.sz, 48) := by kernel_rfl
def cell0 : CellV := ⟨0, false, 0, false, 0, 0⟩

theorem Clone_ok {a : Option Addr} {n c : Nat} {l : List CellV} {w : World} (hr : Reads w Enc.cell (a, n, c) l) (hl : l.length * 48 ≤ 140737488355328) : CallsW Try.prog 38 [.slice a n c] w (Rets (Fresh w 37 Enc.cell l)) := by
  refine sx38.ok ?_
  unfold sx38
  refine ⟨fun h => ?_, fun h b1 w2 hal => ?_⟩
  · have ha : a = none := by simpa using h
    subst ha
    have hn : n = l.length := hr.2.1
    have hc : c = 0 := hr.2.2.1 rfl
    have hnc : n ≤ c := hr.2.2.2
    have : l = [] := List.eq_nil_of_length_eq_zero (by omega)
    subst this
    exact ⟨_, rfl, none, 0, 0, rfl, Own.nil _ _ _ _, Grew.refl _⟩
  · have ho := Own.alloc (E := Enc.cell) (l := []) hal (Nat.le_refl _) rfl (by decide)
    have hr2 := hr.grew hal.grew
    refine append_sl ec ho hr2.1 hr2.2.1 hr2.2.2.1 hal.grew.size (by simp [maxLen]; omega) (by simp; omega) ?_
    rintro v w3 ⟨a5, l5, c5, rfl, ho5, hu5, -⟩
    exact ⟨a5, l5, c5, rfl, _, rfl, a5, l5, c5, rfl, ho5, hal.grew.then_own hu5 fun b hb => (ho.blk hb).1⟩

theorem overlaps_ok {w : World} {g1 g2 o1 o2 la ca lb cb : Nat} {e1 e2 : TypeId} {cs1 cs2 : List Value} (h1 : Row w g1 e1 cs1) (h2 : Row w g2 e2 cs2) (hne : g1 ≠ g2) (hz : cs2 ≠ []) :
    CallsW Try.prog 50 [.slice (some ⟨g1, o1, none⟩) la ca, .slice (some ⟨g2, o2, none⟩) lb cb] w (Rets fun v w' => v = .bool false ∧ w' = w) := by
  refine callsW_extern Try.func50 (by kernel_rfl) (by kernel_rfl) (by kernel_rfl) (e := Extern.SlicesOverlaps.overlaps #[22, 22] #[4]) (by kernel_rfl) fun w₀ hw => ?_
  have k1 : Row w₀ g1 e1 cs1 := hw.at h1 (by simp [hole])
  have k2 : Row w₀ g2 e2 cs2 := hw.at h2 (by simp [hole])
  obtain ⟨i, z, hu, hi, hz', hsz, hb, hzs⟩ := ec
  refine ⟨.bool false, w₀, w, ?_, hw, Kept.refl _ _, _, rfl, rfl, rfl⟩
  refine Lib.run_overlaps_apart (P := Try.prog) w₀ 22 4 37 (by kernel_rfl) 6 (fun w => by simp [Go.sizeOf, typeInfo, hi, hsz]; rfl) ⟨g1, o1, none⟩ ⟨g2, o2, none⟩ la ca lb cb hne e1 e2 cs1.length cs2.length ?_ ?_ (by simpa using hz) ?_ ?_
  · simp [World.shape?, show w₀.heap[g1]? = _ from k1]
  · simp [World.shape?, show w₀.heap[g2]? = _ from k2]
  · simp [World.frozen?, show w₀.heap[g1]? = _ from k1]
  · simp [World.frozen?, show w₀.heap[g1]? = _ from k1]

theorem Insert_ok {d : Option Addr} {n c i b2 m c2 B B2 : Nat} {l vs : List CellV} {w : World} (ho : Own w B 37 Enc.cell d n c l) (hv : Own w B2 37 Enc.cell (some ⟨b2, 0, none⟩) m c2 vs) (hne : ¬ Blk d b2)
    (hi : i ≤ n) (hvs : vs ≠ []) (hB : B ≤ w.heap.size) (hl : l.length + vs.length ≤ 1099511627776) :
    CallsW Try.prog 39 [.slice d n c, .int .i64 i, .slice (some ⟨b2, 0, none⟩) m c2] w (Rets (Onto w B 37 Enc.cell d (l.take i ++ (vs ++ l.drop i)))) := by
  refine sx39.ok ?_
  unfold sx39
  have hn := ho.len
  have hm := hv.len
  have hle := ho.le
  have hm0 : 0 < m := by rw [hm]; exact List.length_pos_iff.2 hvs
  simp only [maxLen] at hle
  refine ⟨by omega, fun h => ?_, fun _ => ⟨fun h => ?_, fun h n4 h4 => ⟨fun h5 => ?_, fun h5 => ?_⟩⟩⟩
  · simp at h; omega
  · have hin : i = n := by simp at h; omega
    have he : l.take i ++ (vs ++ l.drop i) = l ++ vs := by rw [hin, hn]; simp
    rw [he]
    refine append_sl ec ho hv.sl hm (by simp) hB (by simp [maxLen]; omega) (by omega) ?_
    rintro v w1 ⟨a, n', c', rfl, hh⟩
    exact ⟨a, n', c', rfl, _, rfl, a, n', c', rfl, hh⟩
  all_goals
    have hin : i < n := by simp at h; omega
    have hw4 : IntKind.i64.wrap ((n : Int) + (m : Int)) = ((n + m : Nat) : Int) := by rw [IntKind.wrap_i64]; omega
    have hwi : IntKind.i64.wrap ((i : Int) + (m : Int)) = ((i + m : Nat) : Int) := by rw [IntKind.wrap_i64]; omega
    have hA : ((l.take i).flatMap Enc.cell.f).length = i * 6 := by rw [flat_len]; simp [Enc.cell]; omega
    have hV : (vs.flatMap Enc.cell.f).length = m * 6 := by rw [flat_len, hm]; rfl
    have hD : ((l.drop i).flatMap Enc.cell.f).length = (n - i) * 6 := by rw [flat_len]; simp [Enc.cell, hn]
    have hlen2 : n + m = (l.take i ++ (vs ++ l.drop i)).length := by simp; omega
    have hflat : (l.take i ++ (vs ++ l.drop i)).flatMap Enc.cell.f = (l.take i).flatMap Enc.cell.f ++ (vs.flatMap Enc.cell.f ++ (l.drop i).flatMap Enc.cell.f) := by simp
    have hsum : i * 6 + m * 6 + (n - i) * 6 = (n + m) * 6 := by omega
    rcases ho.row with ⟨rfl, rfl, h1, h2⟩ | ⟨g, cs, rfl, hBg, hrow, -, h5', h6, h7, h8⟩
    · omega
    have h7' : cs.length = c * 6 := h7
    have h8' : cs.take (n * 6) = l.flatMap Enc.cell.f := h8
    have hsz : Enc.cell.sz = 6 := rfl
    have hsrcD : ∀ (w' : World), Row w' g 37 cs → ∀ (j : Nat) (u : Value), ((l.drop i).flatMap Enc.cell.f)[j]? = some u → w'.cell? ((⟨g, i * 6, none⟩ : Addr).add j) = some u := by
      intro w' hr j u hj
      have hjl : j < (n - i) * 6 := by
        rw [← hD]
        rcases Nat.lt_or_ge j ((l.drop i).flatMap Enc.cell.f).length with h' | h'
        · exact h'
        · rw [List.getElem?_eq_none h'] at hj; cases hj
      rw [add_mk, hr.cell, ← hj]
      have e1 : (l.flatMap Enc.cell.f)[i * 6 + j]? = ((l.drop i).flatMap Enc.cell.f)[j]? := by
        conv => lhs; rw [← List.take_append_drop i l, List.flatMap_append]
        rw [List.getElem?_append_right (by omega), hA, Nat.add_sub_cancel_left]
      rw [← e1, ← h8', List.getElem?_take, if_pos (by omega)]
    have hcsA : cs.take ((l.take i).flatMap Enc.cell.f).length = (l.take i).flatMap Enc.cell.f := by
      rw [hA, flat_take _ _ _ (by omega), ← h8', hsz, List.take_take, Nat.min_eq_left (by omega)]
  · rw [h4, hw4] at h5
    simp only [decide_eq_true_eq] at h5
    refine ⟨by omega, ?_⟩
    rintro n5 rfl
    rw [hw4]
    have hwz : IntKind.i64.wrap (((n + m : Nat) : Int) - (i : Int)) = ((n + m - i : Nat) : Int) := by rw [IntKind.wrap_i64]; omega
    rw [hwz]
    refine append_zeros (kn := .i64) (x := cell0) (by kernel_rfl) (by kernel_rfl) ez rfl (ho.take hi) (by omega) (by simp [maxLen]; omega) (by omega) ?_
    intro b c' w6 hb6 ho6 hg6
    simp only [Int.toNat_natCast] at ho6 ⊢
    rw [show i + (n + m - i) = n + m from by omega] at ho6 ⊢
    have hle6 := ho6.le
    rcases ho6.row with ⟨h0, -⟩ | ⟨g', cs', hgg, -, hrow6, -, k5, k6, k7, k8⟩
    · cases h0
    obtain rfl : b = g' := by cases hgg; rfl
    have k7' : cs'.length = c' * 6 := k7
    have hgb : g ≠ b := by have := hrow.lt; omega
    have hbb : b2 ≠ b := by have := (hv.blk ⟨_, rfl, rfl⟩).2; simp only at this; omega
    have hcsA' : cs'.take ((l.take i).flatMap Enc.cell.f).length = (l.take i).flatMap Enc.cell.f := by
      have e := k8
      have e2 : cs'.take (i * 6) = (cs'.take ((n + m) * Enc.cell.sz)).take (i * 6) := by rw [List.take_take, hsz, Nat.min_eq_left (by omega)]
      rw [hA, e2, e, List.flatMap_append, List.take_left' hA]
    refine ⟨_, _, _, rfl, by omega, ?_⟩
    have hc6 : ¬ c' = i := by omega
    rw [if_neg hc6]
    try simp only [Int.toNat_natCast, Option.map_some, add_mk, Nat.zero_add]
    refine copy_into (n := m) (g := b) (o := i * 6) (cs := vs.flatMap Enc.cell.f) ec hrow6 (by rw [show Nat.min m (n + m - i) = min m (n + m - i) from rfl]; omega) hV (fun _ => rfl) (fun _ => ⟨_, rfl, flat_cells (hv.sl.grew hg6)⟩) (by omega) (flat_one _ _) ?_
    intro w9 hrow9 hu9
    refine ⟨_, rfl, fun w12 hg12 => ?_⟩
    rintro n13 rfl
    try rw [hwi]
    refine ⟨by omega, by omega, ?_⟩
    have hc7 : ¬ c' = i + m := by omega
    have hc8 : ¬ c = i := by omega
    simp only [Int.toNat_natCast]
    rw [if_neg hc7, if_neg hc8]
    try simp only [Int.toNat_natCast, Option.map_some, add_mk, Nat.zero_add]
    have hrowg : Row w12 g 37 cs := ((hrow.grew hg6).upd hu9 hgb).grew hg12
    refine copy_into (n := n - i) (g := b) (o := (i + m) * 6) (cs := (l.drop i).flatMap Enc.cell.f) ec (hrow9.grew hg12) (by rw [show Nat.min (n - i) (n + m - (i + m)) = min (n - i) (n + m - (i + m)) from rfl]; omega) hD (fun _ => rfl) (fun _ => ⟨_, rfl, hsrcD _ hrowg⟩) (by rw [splice_len _ _ _ (by omega)]; omega) (flat_one _ _) ?_
    intro w14 hrow14 hu14
    refine ⟨_, rfl, trivial, _, rfl, _, _, _, rfl, Own.ofRow hlen2 (Nat.le_trans hB hb6) hrow14 k5 k6 ?_ ?_, ?_, ?_⟩
    · rw [splice_len _ _ _ (by rw [splice_len _ _ _ (by omega)]; omega), splice_len _ _ _ (by omega)]; exact k7
    · have := splice_high cs' _ (vs.flatMap Enc.cell.f) ((l.drop i).flatMap Enc.cell.f) hcsA' (by omega)
      rw [hA, hV, hD, hsum, ← Nat.add_mul] at this
      rw [hflat, hsz]; exact this
    · refine (((hg6.then_upd hu9).then_grew hg12).trans hu14).mono ?_
      intro b' hb' e; omega
    · rintro b' ⟨d', hd', rfl⟩
      cases hd'; exact .inr hb6
  · rw [h4, hw4] at h5
    simp only [decide_eq_false_iff_not] at h5
    rintro n17 rfl
    rw [hw4]
    refine ⟨by omega, ?_⟩
    rintro n18 rfl
    rw [hwi]
    refine ⟨by omega, ?_⟩
    have hc7 : ¬ c = (((i + m : Nat)) : Int).toNat := by rw [Int.toNat_natCast]; omega
    have hc8 : ¬ c = ((i : Nat) : Int).toNat := by rw [Int.toNat_natCast]; omega
    rw [if_neg hc7]
    try simp only [Int.toNat_natCast, Option.map_some, add_mk, Nat.zero_add]
    have hgb2 : b2 ≠ g := fun e => hne ⟨_, rfl, e.symm⟩
    rcases hv.row with ⟨h0, -⟩ | ⟨g', cs', hgg, -, hrowv, -, k5, k6, k7, k8⟩
    · cases h0
    obtain rfl : b2 = g' := by cases hgg; rfl
    refine (overlaps_ok hrowv hrow hgb2 (by intro e; rw [e] at h7'; simp at h7'; omega)).use fun v w19 ⟨hv', hw'⟩ => ?_
    subst hv'; subst hw'
    refine ⟨false, rfl, fun _ w23 hg23 => ?_, fun h => by cases h⟩
    rintro n24 rfl
    simp only [Int.toNat_natCast]
    have hc7' : ¬ c = i + m := by omega
    have hc8' : ¬ c = i := by omega
    rw [if_neg hc7', if_neg hc8']
    try simp only [Int.toNat_natCast, Option.map_some, add_mk, Nat.zero_add]
    refine ⟨by omega, by omega, ?_⟩
    refine copy_into (n := n - i) (g := g) (o := (i + m) * 6) (cs := (l.drop i).flatMap Enc.cell.f) ec (hrow.grew hg23) (by rw [show Nat.min (n + m - i) (n + m - (i + m)) = min (n + m - i) (n + m - (i + m)) from rfl]; omega) hD (fun _ => rfl) (fun _ => ⟨_, rfl, hsrcD _ (hrow.grew hg23)⟩) (by omega) (flat_one _ _) ?_
    intro w25 hrow25 hu25
    refine ⟨_, rfl, trivial, by omega, ?_⟩
    refine copy_into (n := m) (g := g) (o := i * 6) (cs := vs.flatMap Enc.cell.f) ec hrow25 (by rw [show Nat.min m (n + m - i) = min m (n + m - i) from rfl]; omega) hV (fun _ => rfl) (fun _ => ⟨_, rfl, flat_cells ((hv.sl.grew hg23).upd hu25 fun b' hb' e => hne (by obtain ⟨d', hd', h'⟩ := hb'; cases hd'; exact ⟨_, rfl, by simp only at h'; omega⟩))⟩) (by rw [splice_len _ _ _ (by omega)]; omega) (flat_one _ _) ?_
    intro w28 hrow28 hu28
    refine ⟨_, rfl, _, rfl, _, _, _, rfl, Own.ofRow hlen2 hBg hrow28 (by omega) h6 ?_ ?_, ?_, ?_⟩
    · rw [splice_len _ _ _ (by rw [splice_len _ _ _ (by omega)]; omega), splice_len _ _ _ (by omega)]; exact h7
    · have := splice_low cs _ (vs.flatMap Enc.cell.f) ((l.drop i).flatMap Enc.cell.f) hcsA (by omega)
      rw [hA, hV, hD, hsum, ← Nat.add_mul] at this
      rw [hflat, hsz]; exact this
    · refine ((hg23.then_upd hu25).trans hu28).mono ?_
      intro b' _ e; subst e; exact ⟨_, rfl, rfl⟩
    · exact fun b' hb' => .inl hb'

theorem IndexFunc_ok {a : Option Addr} {n c f : Nat} {fc : List Value} {l : List CellV} {w : World} {p : CellV → Bool} (hr : Reads w Enc.cell (a, n, c) l) (hl : l.length < 9223372036854775807)
    (hf : ∀ x ∈ l, ∀ w', Grew w w' → CallsW Try.prog f ([.agg x.vals.toArray] ++ fc.toArray.toList) w' (Rets fun v w'' => v = .bool (p x) ∧ Grew w' w'')) :
    CallsW Try.prog 52 [.slice a n c, .func (.func f) #[] fc.toArray] w (Rets fun v w' => Grew w w' ∧ ((v = .int .i64 (-1) ∧ ∀ x ∈ l, p x = false) ∨ ∃ (i : Nat) (x : CellV), v = .int .i64 i ∧ l[i]? = some x ∧ p x = true ∧ ∀ y ∈ l.take i, p y = false)) := by
  refine sx52.ok ?_
  unfold sx52
  have hn : n = l.length := hr.2.1
  subst hn
  refine ⟨fun i w' => ∃ k : Nat, i = k ∧ k ≤ l.length ∧ (∀ y ∈ l.take k, p y = false) ∧ Grew w w', fun i _ => l.length - i.toNat, ⟨0, rfl, Nat.zero_le _, by simp, Grew.refl _⟩, ?_⟩
  rintro i w' ⟨k, rfl, hk, hno, hg⟩
  refine ⟨fun h => ?_, fun h => ?_⟩
  · simp only [decide_eq_true_eq] at h
    obtain ⟨d, x, had, hx, hcx⟩ := (hr.grew hg).at0 (k := k) (by omega)
    obtain rfl : a = some d := had
    refine ⟨by omega, x.key, x.ph, x.pb, x.ch, x.cb, x.batch, by simpa [CellV.vals, Enc.cell] using hcx, ?_⟩
    refine (hf x (List.mem_of_getElem? hx) w' hg).use fun v w11 ⟨hv, hg11⟩ => ?_
    subst hv
    have hw : IntKind.i64.wrap ((k : Int) + 1) = ((k + 1 : Nat) : Int) := by rw [IntKind.wrap_i64]; omega
    rw [hw]
    refine ⟨_, rfl, fun hp => ?_, fun hp => ?_⟩
    · exact ⟨_, rfl, hg.trans hg11, .inr ⟨k, x, rfl, hx, hp, hno⟩⟩
    · refine ⟨⟨k + 1, rfl, by omega, fun y hy => ?_, hg.trans hg11⟩, by show l.length - (((k + 1 : Nat) : Int)).toNat < l.length - ((k : Int)).toNat; omega⟩
      rw [take_snoc hx] at hy
      rcases List.mem_append.1 hy with hy | hy
      · exact hno y hy
      · simp at hy; subst hy; exact hp
  · simp only [decide_eq_false_iff_not] at h
    have hkl : k = l.length := by omega
    subst hkl
    rw [List.take_length] at hno
    exact ⟨_, rfl, hg, .inl ⟨rfl, hno⟩⟩

theorem DeleteFunc_ok {a : Option Addr} {n c f B : Nat} {fc : List Value} {l : List CellV} {w : World} {p : CellV → Bool} (ho : Own w B 37 Enc.cell a n c l) (hl : l.length < 9223372036854775807)
    (hf : ∀ x ∈ l, ∀ w', Upd (Blk a) w w' → CallsW Try.prog f ([.agg x.vals.toArray] ++ fc.toArray.toList) w' (Rets fun v w'' => v = .bool (p x) ∧ Grew w' w'')) :
    CallsW Try.prog 40 [.slice a n c, .func (.func f) #[] fc.toArray] w (Rets (Onto w B 37 Enc.cell a (l.filter fun x => !p x))) := by
  refine sx40.ok ?_
  unfold sx40
  have hn := ho.len
  subst hn
  have hle := ho.le
  refine (IndexFunc_ok ho.reads hl fun x hx w' hg => hf x hx w' hg.upd).use fun v w1 ⟨hg1, hv⟩ => ?_
  rcases hv with ⟨rfl, hno⟩ | ⟨i, x, rfl, hx, hpx, hno⟩
  · refine ⟨_, rfl, fun _ => ⟨_, rfl, a, _, c, rfl, ?_, hg1.upd, fun b hb => .inl hb⟩, fun h => by simp at h⟩
    have : (l.filter fun x => !p x) = l := List.filter_eq_self.2 fun x hx => by rw [hno x hx]; rfl
    rw [this]; exact ho.grew hg1
  have hil : i < l.length := by
    rcases Nat.lt_or_ge i l.length with h' | h'
    · exact h'
    · rw [List.getElem?_eq_none h'] at hx; cases hx
  refine ⟨_, rfl, fun h => by simp at h, fun _ => ?_⟩
  have hw1 : IntKind.i64.wrap ((i : Int) + 1) = ((i + 1 : Nat) : Int) := by rw [IntKind.wrap_i64]; omega
  have hfi : (l.take i).filter (fun x => !p x) = l.take i := List.filter_eq_self.2 fun x hx => by rw [hno x hx]; rfl
  refine ⟨fun i j w' => ∃ (k q : Nat) (l' : List CellV), i = k ∧ j = q ∧ k < q ∧ q ≤ l.length ∧ Own w' B 37 Enc.cell a l.length c l' ∧ l'.length = l.length ∧ l'.take k = (l.take q).filter (fun x => !p x) ∧ l'.drop q = l.drop q ∧ Upd (Blk a) w w', fun _ j _ => l.length - j.toNat,
    ⟨i, i + 1, l, rfl, hw1, by omega, by omega, ho.grew hg1, rfl, by rw [take_snoc hx, List.filter_append, hfi]; simp [hpx], rfl, hg1.upd⟩, ?_⟩
  rintro i' j' w8 ⟨k, q, l', rfl, rfl, hkq, hq, ho', hll, ht, hd, hu⟩
  have hwk : IntKind.i64.wrap ((k : Int) + 1) = ((k + 1 : Nat) : Int) := by rw [IntKind.wrap_i64]; omega
  have hwq : q < l.length → IntKind.i64.wrap ((q : Int) + 1) = ((q + 1 : Nat) : Int) := fun h => by rw [IntKind.wrap_i64]; omega
  refine ⟨fun h => ?_, fun h => ?_⟩
  · simp only [decide_eq_true_eq] at h
    have hql : q < l.length := by omega
    obtain ⟨d, y, had, hy, hcy⟩ := ho'.reads.at0 (k := q) (by omega)
    obtain rfl : a = some d := had
    have hyl : l[q]? = some y := by
      have e1 : (l'.drop q)[0]? = some y := by rw [List.getElem?_drop]; exact hy
      rw [hd, List.getElem?_drop] at e1; exact e1
    have hdl : l'.drop (q + 1) = l.drop (q + 1) := by rw [← List.drop_drop, hd, List.drop_drop]
    rw [hwk, hwq hql]
    refine ⟨by omega, y.key, y.ph, y.pb, y.ch, y.cb, y.batch, by simpa [CellV.vals, Enc.cell] using hcy, fun w16 hg16 => ?_⟩
    refine (hf y (List.mem_of_getElem? hyl) w16 (hu.then_grew hg16)).use fun v w17 ⟨hv, hg17⟩ => ?_
    subst hv
    have ho17 := (ho'.grew hg16).grew hg17
    have hu17 := (hu.then_grew hg16).then_grew hg17
    refine ⟨_, rfl, fun hp => ?_, fun hp => ?_⟩
    · obtain ⟨d', hd', hroom, hset, hus⟩ := ho17.set (i := k) (by omega) y
      cases hd'
      refine ⟨by omega, by simpa [CellV.vals, Enc.cell] using hroom, ?_⟩
      rintro w22 rfl
      refine ⟨⟨k + 1, q + 1, l'.set k y, rfl, rfl, by omega, by omega, by simpa [CellV.vals, Enc.cell] using hset, by simpa using hll, ?_, ?_, by simpa [CellV.vals, Enc.cell] using hu17.trans hus⟩, by show l.length - (((q + 1 : Nat) : Int)).toNat < l.length - ((q : Int)).toNat; omega⟩
      · have hky : (l'.set k y)[k]? = some y := by rw [List.getElem?_set_self (by omega)]
        rw [take_snoc hky, List.take_set_of_le (Nat.le_refl _), ht, take_snoc hyl, List.filter_append]
        have : (!p y) = true := hp
        simp [this]
      · rw [List.drop_set_of_lt (by omega), hdl]
    · refine ⟨⟨k, q + 1, l', rfl, rfl, by omega, by omega, ho17, hll, ?_, hdl, hu17⟩, by show l.length - (((q + 1 : Nat) : Int)).toNat < l.length - ((q : Int)).toNat; omega⟩
      rw [ht, take_snoc hyl, List.filter_append]
      have : p y = true := by simpa using hp
      simp [this]
  · simp only [decide_eq_false_iff_not] at h
    have hql : q = l.length := by omega
    subst hql
    rw [List.take_length] at ht
    refine ⟨by omega, ?_⟩
    rcases ho'.row with ⟨-, h1, h2, -⟩ | ⟨g, cs, rfl, hBg, hrow, -, h5, h6, h7, h8⟩
    · rw [h1] at hll; simp at hll; omega
    have h7' : cs.length = c * 6 := h7
    have h8' : cs.take (l.length * 6) = l'.flatMap Enc.cell.f := h8
    refine clear_into (x := cell0) (o := k * 6) (by kernel_rfl) ez rfl hrow (fun _ => ?_) ?_ ?_
    · rw [Int.toNat_natCast, cut_addr (sz := 6), if_neg (by omega), Nat.zero_add]
    · rw [Int.toNat_natCast]; simp only [Enc.cell]; omega
    intro w23 hrow23 hu23
    have hk : k = (l.filter fun x => !p x).length := by rw [← ht, List.length_take]; omega
    refine ⟨rfl, by omega, _, rfl, _, _, _, rfl, Own.ofRow (by rw [Int.toNat_natCast]; exact hk) hBg hrow23 (by omega) h6 ?_ ?_, hu.trans (hu23.mono fun b _ e => by subst e; exact ⟨_, rfl, rfl⟩), fun b hb => .inl hb⟩
    · rw [splice_len _ _ _ (by rw [flat_len]; simp only [List.length_replicate, Int.toNat_natCast, Enc.cell]; omega)]; exact h7
    · rw [Int.toNat_natCast]
      show (splice cs (k * 6) _).take (k * 6) = _
      rw [splice_take _ _ _ _ (Nat.le_refl _) (by omega), ← ht, flat_take _ _ _ (by omega), ← h8']
      show cs.take (k * 6) = (cs.take (l.length * 6)).take (k * 6)
      rw [List.take_take, Nat.min_eq_left (by omega)]

theorem BinarySearchFunc_ok {a : Option Addr} {n c f : Nat} {t : Int} {fc : List Value} {l : List CellV} {w : World} {p : CellV → Int} (hr : Reads w Enc.cell (a, n, c) l) (hl : l.length < 4611686018427387904)
    (hs : ∀ (i j : Nat) (x y : CellV), i ≤ j → l[i]? = some x → l[j]? = some y → p y < 0 → p x < 0)
    (hf : ∀ x ∈ l, ∀ w', Grew w w' → CallsW Try.prog f ([.agg x.vals.toArray, .int .u64 t] ++ fc.toArray.toList) w' (Rets fun v w'' => v = .int .i64 (p x) ∧ Grew w' w'')) :
    CallsW Try.prog 34 [.slice a n c, .int .u64 t, .func (.func f) #[] fc.toArray] w (Rets fun v w' => Grew w w' ∧ ∃ k : Nat, k = (l.takeWhile fun x => decide (p x < 0)).length ∧ v = .tuple #[.int .i64 k, .bool ((l[k]?).any fun x => p x == 0)]) := by
  refine sx34.ok ?_
  unfold sx34
  have hn : n = l.length := hr.2.1
  subst hn
  refine ⟨fun i j w' => ∃ (k q : Nat), i = k ∧ j = q ∧ k ≤ q ∧ q ≤ l.length ∧ (∀ (i : Nat) (x : CellV), i < k → l[i]? = some x → p x < 0) ∧ (∀ (i : Nat) (x : CellV), q ≤ i → l[i]? = some x → ¬ p x < 0) ∧ Grew w w', fun i j _ => (j - i).toNat,
    ⟨0, l.length, rfl, rfl, Nat.zero_le _, Nat.le_refl _, fun i x h => by omega, fun i x h hx => (by rw [List.getElem?_eq_none h] at hx; cases hx), Grew.refl _⟩, ?_⟩
  rintro i j w4 ⟨k, q, rfl, rfl, hkq, hq, hlo, hhi, hg⟩
  refine ⟨fun h => ?_, fun h => ?_⟩
  · simp only [decide_eq_true_eq] at h
    have e1 : IntKind.u64.wrap (IntKind.i64.wrap ((k : Int) + (q : Int))) = ((k + q : Nat) : Int) := by rw [IntKind.wrap_i64, IntKind.wrap_u64]; omega
    rintro n5 rfl
    refine ⟨by decide, ?_⟩
    rintro n6 rfl
    have e2 : IntKind.i64.wrap (Int.fdiv (IntKind.u64.wrap (IntKind.i64.wrap ((k : Int) + (q : Int)))) (2 ^ (min (1 : Int).toNat (IntKind.bits .u64)))) = (((k + q) / 2 : Nat) : Int) := by
      rw [e1]
      have : Int.fdiv ((k + q : Nat) : Int) (2 ^ (min (1 : Int).toNat (IntKind.bits .u64))) = (((k + q) / 2 : Nat) : Int) := by
        rw [Int.fdiv_eq_ediv_of_nonneg _ (by decide)]; rfl
      rw [this, IntKind.wrap_i64]; omega
    rw [e2]
    obtain ⟨m, hm⟩ : ∃ m, m = (k + q) / 2 := ⟨_, rfl⟩
    rw [← hm]
    have hmk : k ≤ m ∧ m < q := by omega
    obtain ⟨d, x, had, hx, hcx⟩ := (hr.grew hg).at0 (k := m) (by omega)
    obtain rfl : a = some d := had
    refine ⟨by omega, x.key, x.ph, x.pb, x.ch, x.cb, x.batch, by simpa [CellV.vals, Enc.cell] using hcx, ?_⟩
    refine (hf x (List.mem_of_getElem? hx) w4 hg).use fun v w14 ⟨hv, hg14⟩ => ?_
    subst hv
    refine ⟨_, rfl, fun hp => ?_, fun hp => ?_⟩
    · simp only [decide_eq_true_eq] at hp
      have hw : IntKind.i64.wrap ((m : Int) + 1) = ((m + 1 : Nat) : Int) := by rw [IntKind.wrap_i64]; omega
      rintro n18 rfl
      rw [hw]
      exact ⟨⟨m + 1, q, rfl, rfl, by omega, hq, fun i y hi hy => hs i m y x (by omega) hy hx hp, hhi, hg.trans hg14⟩, by show ((q : Int) - ((m + 1 : Nat) : Int)).toNat < ((q : Int) - (k : Int)).toNat; omega⟩
    · simp only [decide_eq_false_iff_not] at hp
      exact ⟨⟨k, m, rfl, rfl, by omega, by omega, hlo, fun i y hi hy hpy => hp (hs m i x y hi hx hy hpy), hg.trans hg14⟩, by show ((m : Int) - (k : Int)).toNat < ((q : Int) - (k : Int)).toNat; omega⟩
  · simp only [decide_eq_false_iff_not] at h
    have hkq' : k = q := by omega
    subst hkq'
    have htw : (l.takeWhile fun x => decide (p x < 0)).length = k := takeWhile_len _ l k hq (fun i x hi hx => by simpa using hlo i x hi hx) (fun x hx => by simpa using hhi k x (Nat.le_refl _) hx)
    refine ⟨fun h => ?_, fun h => ?_⟩
    · simp only [decide_eq_true_eq] at h
      obtain ⟨d, x, had, hx, hcx⟩ := (hr.grew hg).at0 (k := k) (by omega)
      obtain rfl : a = some d := had
      refine ⟨by omega, x.key, x.ph, x.pb, x.ch, x.cb, x.batch, by simpa [CellV.vals, Enc.cell] using hcx, ?_⟩
      refine (hf x (List.mem_of_getElem? hx) w4 hg).use fun v w14 ⟨hv, hg14⟩ => ?_
      subst hv
      exact ⟨_, rfl, _, rfl, hg.trans hg14, k, htw.symm, by rw [hx]; rfl⟩
    · simp only [decide_eq_false_iff_not] at h
      have : l[k]? = none := List.getElem?_eq_none (by omega)
      exact ⟨_, rfl, hg, k, htw.symm, by rw [this]; rfl⟩
end Go.Proofs.Ytnbknhcpjggabaa
