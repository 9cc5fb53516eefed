/- SourceExact: what it computes, and its row. Conditions: none. -/
import Derived.Test.YtifhpmmdfjmppaaGreatProg
import Derived.Test.YtifhpmmdfjmppaaGreatSrcT
import Derived.Test.YtifhpmmdfjmppaaGreatRows
namespace Go.Proofs.YtifhpmmdfjmppaaGreat
open Go.Sx
set_option maxRecDepth 100000
set_option linter.unusedVariables false
set_option linter.unusedSimpArgs false
/- reprise/repriselaw06.SourceExact -/
def sx3 (d : Int) (i : Option Addr) (i_n i_c : Nat) (p2 : Option Addr) (p2_n p2_c : Nat) (R : Ending → World → Prop) (w : World) : Prop :=
  CallsW Tryz.prog 4 [] w (RetR R fun u2 w1 => ∃ (b3 : Bool), u2 = .bool b3 ∧ (((!b3) = true → R (.returned (.bool false)) w1) ∧ ((!b3) = false → CallsW Tryz.prog 5 [.int .i64 d, .slice i i_n i_c] w1 (RetR R fun u6 w5 => ∃
    (p7 : Option Addr) (n8 : Int), u6 = .tuple #[.pointer p7, .int .i64 n8] ∧ CallsW Tryz.prog 6 [.int .i64 d, .slice i i_n i_c] w5 (RetR R fun u11 w10 => ∃ (p12 : Option Addr) (n13 : Int), u11 = .tuple #[.pointer p12,
    .int .i64 n13] ∧ (((n8 != n13) = true → R (.returned (.bool false)) w10) ∧ ((n8 != n13) = false → (((!(Option.isNone p7 == Option.isNone p12)) = true → R (.returned (.bool false)) w10) ∧ ((!(Option.isNone p7 ==
    Option.isNone p12)) = false → CallsW Tryz.prog 5 [.int .i64 1, .slice none 0 0] w10 (RetR R fun u16 w15 => ∃ (p17 : Option Addr) (n18 : Int), u16 = .tuple #[.pointer p17, .int .i64 n18] ∧ CallsW Tryz.prog 6 [.int .i64
    1, .slice none 0 0] w15 (RetR R fun u21 w20 => ∃ (p22 : Option Addr) (n23 : Int), u21 = .tuple #[.pointer p22, .int .i64 n23] ∧ (((n18 != 0) = true → R (.returned (.bool false)) w20) ∧ ((n18 != 0) = false →
    (((Option.isNone p17) = true → R (.returned (.bool false)) w20) ∧ ((Option.isNone p17) = false → ∀ (b25 : Nat) (w26 : World), Alloc w20 w26 b25 (.cells [.pointer none, .pointer none, .pointer none].toArray 32) →
    RoomAt w26 ⟨b25, 0, none⟩ 0 [.pointer p7, .pointer p17, .pointer none] ∧ ∀ w27, w27 = setCells w26 ⟨b25, 0, none⟩ 0 [.pointer p7, .pointer p17, .pointer none] → ∀ (b28 : Nat) (w29 : World), Alloc w27 w29 b28 (.cells
    [.pointer none, .pointer none, .pointer none].toArray 33) → RoomAt w29 ⟨b28, 0, none⟩ 0 [.pointer p12, .pointer p22, .pointer none] ∧ ∀ w30, w30 = setCells w29 ⟨b28, 0, none⟩ 0 [.pointer p12, .pointer p22, .pointer
    none] → ∃ (J31 : World → Prop), (∃ (I32 : Int → World → Prop) (m32 : Int → World → Nat), I32 0 w30 ∧ ∀ (n33 : Int) (w34 : World), I32 n33 w34 → (((decide (n33 < ((p2_n : Nat) : Int))) = true → (((decide (n33 < 4096))
    = true → withSome p2 (fun d35 => (0 ≤ n33 ∧ n33 < (p2_n : Nat)) ∧ ∃ (n36 : Int), w34.cell? (Addr.add (Addr.add d35 (n33.toNat * 7)) 1) = some (.int .i64 n36) ∧ (((3 : Int) = 0 → R (.panicked (divPanic Tryz.prog)) w34)
    ∧ ((3 : Int) ≠ 0 → ∀ n37 : Int, n37 = Int.tmod (IntKind.u64.wrap n36) 3 → ∀ w38, Grew w34 w38 → (0 ≤ (IntKind.i64.wrap n37) ∧ (IntKind.i64.wrap n37) < (3 : Nat)) ∧ ∃ (p39 : Option Addr), w38.cell? (Addr.add (⟨b25, 0,
    none⟩ : Addr) ((IntKind.i64.wrap n37).toNat * 1)) = some (.pointer p39) ∧ (0 ≤ (IntKind.i64.wrap n37) ∧ (IntKind.i64.wrap n37) < (3 : Nat)) ∧ ∃ (p40 : Option Addr), w38.cell? (Addr.add (⟨b28, 0, none⟩ : Addr)
    ((IntKind.i64.wrap n37).toNat * 1)) = some (.pointer p40) ∧ withSome p2 (fun d41 => (0 ≤ n33 ∧ n33 < (p2_n : Nat)) ∧ ∃ (n42 : Int) (n43 : Int) (n44 : Int) (n45 : Int) (n46 : Int) (n47 : Int) (x48 : Nat), CellsAt w38
    (Addr.add d41 (n33.toNat * 7)) 0 [.int .i64 n42, .int .i64 n43, .int .i64 n44, .int .i64 n45, .int .i64 n46, .int .u64 n47, .float .f64 x48] ∧ CallsW Tryz.prog 7 [.pointer p39, .pointer p40, .agg #[.int .i64 n42, .int
    .i64 n43, .int .i64 n44, .int .i64 n45, .int .i64 n46, .int .u64 n47, .float .f64 x48]] w38 (RetR R fun u50 w49 => ∃ (b51 : Bool), u50 = .bool b51 ∧ (((!b51) = true → R (.returned (.bool false)) w49) ∧ ((!b51) = false
    → (I32 (IntKind.i64.wrap (n33 + 1)) w49 ∧ m32 (IntKind.i64.wrap (n33 + 1)) w49 < m32 n33 w34))))))))) ∧ ((decide (n33 < 4096)) = false → J31 w34))) ∧ ((decide (n33 < ((p2_n : Nat) : Int))) = false → J31 w34))) ∧ ∀ 
    (w53 : World), J31 w53 → ∃ (I54 : Int → World → Prop) (m54 : Int → World → Nat), I54 0 w53 ∧ ∀ (n55 : Int) (w56 : World), I54 n55 w56 → (((decide (n55 < 3)) = true → ∀ w57, Grew w56 w57 → (0 ≤ n55 ∧ n55 < (3 : Nat)) ∧
    ∃ (p58 : Option Addr), w57.cell? (Addr.add (⟨b25, 0, none⟩ : Addr) (n55.toNat * 1)) = some (.pointer p58) ∧ (0 ≤ n55 ∧ n55 < (3 : Nat)) ∧ ∃ (p59 : Option Addr), w57.cell? (Addr.add (⟨b28, 0, none⟩ : Addr) (n55.toNat *
    1)) = some (.pointer p59) ∧ CallsW Tryz.prog 9 [.pointer p58] w57 (RetR R fun u61 w60 => ∃ (a62 : Option Addr) (l62 c62 : Nat), u61 = .slice a62 l62 c62 ∧ SameB w57 w60 [(Addr.add (⟨b28, 0, none⟩ : Addr) (n55.toNat *
    1)), (Addr.add (⟨b25, 0, none⟩ : Addr) (n55.toNat * 1))] ∧ CallsW Tryz.prog 10 [.pointer p59] w60 (RetR R fun u65 w64 => ∃ (a66 : Option Addr) (l66 c66 : Nat), u65 = .slice a66 l66 c66 ∧ CallsW Tryz.prog 8 [.slice a62
    l62 c62, .slice a66 l66 c66] w64 (RetR R fun u69 w68 => ∃ (b70 : Bool), u69 = .bool b70 ∧ (((!b70) = true → R (.returned (.bool false)) w68) ∧ ((!b70) = false → (0 ≤ n55 ∧ n55 < (3 : Nat)) ∧ ∃ (p72 : Option Addr),
    w68.cell? (Addr.add (⟨b25, 0, none⟩ : Addr) (n55.toNat * 1)) = some (.pointer p72) ∧ (0 ≤ n55 ∧ n55 < (3 : Nat)) ∧ ∃ (p73 : Option Addr), w68.cell? (Addr.add (⟨b28, 0, none⟩ : Addr) (n55.toNat * 1)) = some (.pointer
    p73) ∧ CallsW Tryz.prog 11 [.pointer p72] w68 (RetR R fun u75 w74 => ∃ (n76 : Int), u75 = .int .i64 n76 ∧ SameB w68 w74 [(Addr.add (⟨b28, 0, none⟩ : Addr) (n55.toNat * 1)), (Addr.add (⟨b25, 0, none⟩ : Addr) (n55.toNat
    * 1))] ∧ CallsW Tryz.prog 12 [.pointer p73] w74 (RetR R fun u79 w78 => ∃ (n80 : Int), u79 = .int .i64 n80 ∧ SameB w74 w78 [(Addr.add (⟨b28, 0, none⟩ : Addr) (n55.toNat * 1)), (Addr.add (⟨b25, 0, none⟩ : Addr)
    (n55.toNat * 1))] ∧ (((n76 != n80) = true → R (.returned (.bool false)) w78) ∧ ((n76 != n80) = false → ∃ (I82 : Int → World → Prop) (m82 : Int → World → Nat), I82 (-1) w78 ∧ ∀ (n83 : Int) (w84 : World), I82 n83 w84 →
    (((decide (n83 < 5)) = true → ∀ w85, Grew w84 w85 → (0 ≤ n55 ∧ n55 < (3 : Nat)) ∧ ∃ (p86 : Option Addr), w85.cell? (Addr.add (⟨b25, 0, none⟩ : Addr) (n55.toNat * 1)) = some (.pointer p86) ∧ (0 ≤ n55 ∧ n55 < (3 : Nat))
    ∧ ∃ (p87 : Option Addr), w85.cell? (Addr.add (⟨b28, 0, none⟩ : Addr) (n55.toNat * 1)) = some (.pointer p87) ∧ CallsW Tryz.prog 14 [.pointer p86, .int .i64 n83] w85 (RetR R fun u89 w88 => ∃ (a90 : Option Addr) (l90 c90
    : Nat), u89 = .slice a90 l90 c90 ∧ SameB w85 w88 [(Addr.add (⟨b28, 0, none⟩ : Addr) (n55.toNat * 1)), (Addr.add (⟨b25, 0, none⟩ : Addr) (n55.toNat * 1))] ∧ CallsW Tryz.prog 15 [.pointer p87, .int .i64 n83] w88 (RetR R
    fun u93 w92 => ∃ (a94 : Option Addr) (l94 c94 : Nat), u93 = .slice a94 l94 c94 ∧ CallsW Tryz.prog 13 [.slice a90 l90 c90, .slice a94 l94 c94] w92 (RetR R fun u97 w96 => ∃ (b98 : Bool), u97 = .bool b98 ∧ (((!b98) = true
    → R (.returned (.bool false)) w96) ∧ ((!b98) = false → (0 ≤ n55 ∧ n55 < (3 : Nat)) ∧ ∃ (p100 : Option Addr), w96.cell? (Addr.add (⟨b25, 0, none⟩ : Addr) (n55.toNat * 1)) = some (.pointer p100) ∧ (0 ≤ n55 ∧ n55 < (3 :
    Nat)) ∧ ∃ (p101 : Option Addr), w96.cell? (Addr.add (⟨b28, 0, none⟩ : Addr) (n55.toNat * 1)) = some (.pointer p101) ∧ CallsW Tryz.prog 16 [.pointer p100, .int .i64 n83] w96 (RetR R fun u103 w102 => ∃ (b104 : Bool),
    u103 = .bool b104 ∧ SameB w96 w102 [(Addr.add (⟨b28, 0, none⟩ : Addr) (n55.toNat * 1)), (Addr.add (⟨b25, 0, none⟩ : Addr) (n55.toNat * 1))] ∧ CallsW Tryz.prog 17 [.pointer p101, .int .i64 n83] w102 (RetR R fun u107
    w106 => ∃ (b108 : Bool), u107 = .bool b108 ∧ SameB w102 w106 [(Addr.add (⟨b28, 0, none⟩ : Addr) (n55.toNat * 1)), (Addr.add (⟨b25, 0, none⟩ : Addr) (n55.toNat * 1))] ∧ (((!(b104 == b108)) = true → R (.returned (.bool
    false)) w106) ∧ ((!(b104 == b108)) = false → (0 ≤ n55 ∧ n55 < (3 : Nat)) ∧ ∃ (p110 : Option Addr), w106.cell? (Addr.add (⟨b25, 0, none⟩ : Addr) (n55.toNat * 1)) = some (.pointer p110) ∧ (0 ≤ n55 ∧ n55 < (3 : Nat)) ∧ ∃
    (p111 : Option Addr), w106.cell? (Addr.add (⟨b28, 0, none⟩ : Addr) (n55.toNat * 1)) = some (.pointer p111) ∧ CallsW Tryz.prog 18 [.pointer p110, .int .i64 n83] w106 (RetR R fun u113 w112 => ∃ (n114 : Int), u113 = .int
    .i64 n114 ∧ SameB w106 w112 [(Addr.add (⟨b28, 0, none⟩ : Addr) (n55.toNat * 1)), (Addr.add (⟨b25, 0, none⟩ : Addr) (n55.toNat * 1)), (Addr.add (⟨b28, 0, none⟩ : Addr) (n55.toNat * 1)), (Addr.add (⟨b25, 0, none⟩ :
    Addr) (n55.toNat * 1))] ∧ CallsW Tryz.prog 19 [.pointer p111, .int .i64 n83] w112 (RetR R fun u117 w116 => ∃ (n118 : Int), u117 = .int .i64 n118 ∧ SameB w112 w116 [(Addr.add (⟨b28, 0, none⟩ : Addr) (n55.toNat * 1)),
    (Addr.add (⟨b25, 0, none⟩ : Addr) (n55.toNat * 1)), (Addr.add (⟨b28, 0, none⟩ : Addr) (n55.toNat * 1)), (Addr.add (⟨b25, 0, none⟩ : Addr) (n55.toNat * 1))] ∧ (((n114 != n118) = true → R (.returned (.bool false)) w116)
    ∧ ((n114 != n118) = false → (I82 (IntKind.i64.wrap (n83 + 1)) w116 ∧ m82 (IntKind.i64.wrap (n83 + 1)) w116 < m82 n83 w84))))))))))))))) ∧ ((decide (n83 < 5)) = false → (I54 (IntKind.i64.wrap (n55 + 1)) w84 ∧ m54
    (IntKind.i64.wrap (n55 + 1)) w84 < m54 n55 w56))))))))))))) ∧ ((decide (n55 < 3)) = false → R (.returned (.bool true)) w56)))))))))))))))))
theorem sx3.ok {d : Int} {i : Option Addr} {i_n i_c : Nat} {p2 : Option Addr} {p2_n p2_c : Nat} {R : Ending → World → Prop} {w : World} (h : sx3 d i i_n i_c p2 p2_n p2_c R w) : CallsW Tryz.prog 3 [.int .i64 d, .slice i i_n i_c, .slice p2 p2_n p2_c] w R :=
  callsW_of mix Tryz.func3 (by kernel_rfl) (by kernel_rfl) (Eq.mpr (by kernel_rfl : denFn Tryz.prog { named := [80], draws := [(17, { order := (.cons 0 (.cons 1 (.cons 2 (.cons 3 (.cons 4 (.cons 5 (.cons 6 (.cons 7 (.cons 8 (.cons 9 (.cons 10 (.cons 11 .nil)))))))))))), bars := [10] }), (22, { order := (.cons 0 (.cons 1 (.cons 2 (.cons 4 (.cons 5 (.cons 6 (.cons 3 (.cons 7 (.cons 8 (.cons 9 (.cons 10 (.cons 11 (.cons 12 (.cons 13 (.cons 15 (.cons 16 (.cons 17 (.cons 14 (.cons 18 (.cons 19 (.cons 20 .nil))))))))))))))))))))), bars := [7, 8] }), (27, { order := (.cons 0 (.cons 1 (.cons 2 (.cons 3 (.cons 5 (.cons 6 (.cons 7 (.cons 8 (.cons 4 (.cons 9 (.cons 10 (.cons 11 (.cons 12 (.cons 13 (.cons 14 (.cons 15 (.cons 16 (.cons 18 (.cons 19 (.cons 20 (.cons 21 (.cons 17 (.cons 22 (.cons 23 (.cons 24 (.cons 25 (.cons 26 (.cons 27 (.cons 28 (.cons 29 (.cons 31 (.cons 32 (.cons 33 (.cons 34 (.cons 30 (.cons 35 (.cons 36 (.cons 37 .nil)))))))))))))))))))))))))))))))))))))), bars := [9, 10] })], loops := [(14, { slots := [(16, .int .i64)], cells := [] }), (25, { slots := [(19, .int .i64)], cells := [] }), (1020, { slots := [(18, .int .i64)], cells := [] })], cuts := [(19, { slots := [], cells := [] })] } Tryz.f3 [.int .i64 d, .slice i i_n i_c, .slice p2 p2_n p2_c] R w = sx3 d i i_n i_c p2 p2_n p2_c R w) h)


/-- two twins and none, under way -/
structure Play (w0 w : World) (p1 q1 p2 q2 : Option Addr) (b25 b28 : Nat) : Prop where
  out : ∃ t1 t2, TwinAt w0 w p1 q1 t1 ∧ TwinAt w0 w p2 q2 t2 ∧ (∀ b, TFoot t1 b → ¬ TFoot t2 b) ∧ (∀ b, TFoot t1 b ∨ TFoot t2 b → b ≠ b25 ∧ b ≠ b28)
  have_ : Row w b25 32 [.pointer p1, .pointer p2, .pointer none]
  want : Row w b28 33 [.pointer q1, .pointer q2, .pointer none]
  grew : Grew w0 w
theorem Play.more {w0 w w' : World} {p1 q1 p2 q2 : Option Addr} {b25 b28 : Nat} (h : Play w0 w p1 q1 p2 q2 b25 b28) (hg : Grew w w') : Play w0 w' p1 q1 p2 q2 b25 b28 := by
  obtain ⟨⟨t1, t2, h1, h2, h3, h4⟩, h5, h6, h7⟩ := h
  exact ⟨⟨t1, t2, h1.grew hg, h2.grew hg, h3, h4⟩, h5.grew hg, h6.grew hg, h7.trans hg⟩
theorem Play.left {w0 w w' : World} {p1 q1 p2 q2 : Option Addr} {b25 b28 : Nat} {t1 t2 : Twin} (h1 : TwinAt w0 w p1 q1 t1) (h2 : TwinAt w0 w p2 q2 t2) (h3 : ∀ b, TFoot t1 b → ¬ TFoot t2 b) (h4 : ∀ b, TFoot t1 b ∨ TFoot t2 b → b ≠ b25 ∧ b ≠ b28)
    (h5 : Row w b25 32 [.pointer p1, .pointer p2, .pointer none]) (h6 : Row w b28 33 [.pointer q1, .pointer q2, .pointer none]) (h7 : Grew w0 w) (hS : Steps w0 w p1 q1 t1 w') : Play w0 w' p1 q1 p2 q2 b25 b28 := by
  obtain ⟨t', m1, m2, m3⟩ := hS
  refine ⟨⟨t', t2, m1, h2.upd m2 fun b hb h => h3 b h hb, fun b hb hb2 => ?_, fun b hb => ?_⟩, h5.upd m2 fun h => (h4 _ (.inl h)).1 rfl, h6.upd m2 fun h => (h4 _ (.inl h)).2 rfl, h7.then_own m2 fun b hb => (h1.foot hb).1⟩
  · rcases m3 b hb with h | h
    · exact h3 b h hb2
    · have := (h2.foot hb2).2; omega
  · rcases hb with hb | hb
    · rcases m3 b hb with h | h
      · exact h4 b (.inl h)
      · have := h5.lt; have := h6.lt; exact ⟨by omega, by omega⟩
    · exact h4 b (.inr hb)
theorem Play.right {w0 w w' : World} {p1 q1 p2 q2 : Option Addr} {b25 b28 : Nat} {t1 t2 : Twin} (h1 : TwinAt w0 w p1 q1 t1) (h2 : TwinAt w0 w p2 q2 t2) (h3 : ∀ b, TFoot t1 b → ¬ TFoot t2 b) (h4 : ∀ b, TFoot t1 b ∨ TFoot t2 b → b ≠ b25 ∧ b ≠ b28)
    (h5 : Row w b25 32 [.pointer p1, .pointer p2, .pointer none]) (h6 : Row w b28 33 [.pointer q1, .pointer q2, .pointer none]) (h7 : Grew w0 w) (hS : Steps w0 w p2 q2 t2 w') : Play w0 w' p1 q1 p2 q2 b25 b28 := by
  obtain ⟨t', m1, m2, m3⟩ := hS
  refine ⟨⟨t1, t', h1.upd m2 fun b hb h => h3 b hb h, m1, fun b hb hb2 => ?_, fun b hb => ?_⟩, h5.upd m2 fun h => (h4 _ (.inr h)).1 rfl, h6.upd m2 fun h => (h4 _ (.inr h)).2 rfl, h7.then_own m2 fun b hb => (h2.foot hb).1⟩
  · rcases m3 b hb2 with h | h
    · exact h3 b hb h
    · have := (h1.foot hb).2; omega
  · rcases hb with hb | hb
    · exact h4 b (.inl hb)
    · rcases m3 b hb with h | h
      · exact h4 b (.inr h)
      · have := h5.lt; have := h6.lt; exact ⟨by omega, by omega⟩
theorem right_ok {w0 w : World} {pa pb : Option Addr} {t : Twin} {o : Op7V} (h : TwinAt w0 w pa pb t) (hr : o.r.Fits) (hB : w0.heap.size ≤ w.heap.size) :
    CallsW Tryz.prog 7 [.pointer pa, .pointer pb, .agg (Enc.op7.f o).toArray] w (Rets fun u w' => u = .bool true ∧ Steps w0 w pa pb t w') := by
  match t, h with
  | none, h => obtain ⟨rfl, rfl⟩ := h; exact rightN_ok ⟨rfl, rfl⟩ hr hB
  | some (x, y, v), h => obtain ⟨rfl, rfl, h1⟩ := h; exact rightS_ok ⟨rfl, rfl, h1⟩ hr hB
def third (k : Int) (p1 p2 : Option Addr) : Option Addr := if k = 0 then p1 else if k = 1 then p2 else none
/-- the three's cells -/
theorem three {w : World} {g : Nat} {e : TypeId} {p1 p2 : Option Addr} (h : Row w g e [.pointer p1, .pointer p2, .pointer none]) {k : Int} (h0 : 0 ≤ k) (h3 : k < 3) :
    w.cell? (Addr.add (⟨g, 0, none⟩ : Addr) (k.toNat * 1)) = some (.pointer (third k p1 p2)) := by
  rw [add_mk, Nat.mul_one, Nat.zero_add, h.cell]
  rcases (show k = 0 ∨ k = 1 ∨ k = 2 by omega) with rfl | rfl | rfl <;> rfl
theorem Play.twin {w0 w : World} {p1 q1 p2 q2 : Option Addr} {b25 b28 : Nat} (h : Play w0 w p1 q1 p2 q2 b25 b28) (k : Int) : ∃ t, TwinAt w0 w (third k p1 p2) (third k q1 q2) t ∧ ∀ w', Steps w0 w (third k p1 p2) (third k q1 q2) t w' → Play w0 w' p1 q1 p2 q2 b25 b28 := by
  obtain ⟨⟨t1, t2, h1, h2, h3, h4⟩, h5, h6, h7⟩ := h
  unfold third
  by_cases k0 : k = 0
  · rw [if_pos k0, if_pos k0]
    exact ⟨t1, h1, fun w' hS => Play.left h1 h2 h3 h4 h5 h6 h7 hS⟩
  · rw [if_neg k0, if_neg k0]
    by_cases k1 : k = 1
    · rw [if_pos k1, if_pos k1]
      exact ⟨t2, h2, fun w' hS => Play.right h1 h2 h3 h4 h5 h6 h7 hS⟩
    · rw [if_neg k1, if_neg k1]
      refine ⟨none, ⟨rfl, rfl⟩, fun w' hS => ?_⟩
      obtain ⟨t', m1, m2, m3⟩ := hS
      have hg : Grew w w' := ⟨m2.os, m2.tape, m2.output, m2.size, fun b hb => m2.block b hb fun h => h.elim⟩
      exact Play.more ⟨⟨t1, t2, h1, h2, h3, h4⟩, h5, h6, h7⟩ hg

theorem op7_on {w : World} {d : Addr} {x : Op7V} {k : Nat} (h : CellsAt w (d.add (k * Enc.op7.sz)) 0 (Enc.op7.f x)) : w.cell? (Addr.add (Addr.add d (((k : Nat) : Int).toNat * 7)) 1) = some (.int .i64 x.on) := by
  have := cellsAt_get h 1 _ rfl
  simpa [Enc.op7, Addr.add_add] using this
theorem srcBase {tS tP tR tO : TypeId} {w : World} {B B' : Nat} {x : SrcX} {v : SrcV} (h : SrcAt tS tP tR tO w B x v) (hB : B' ≤ B) : SrcAt tS tP tR tO w B' x v :=
  ⟨h.row, h.parts.base hB, h.len, fun i s hs => by obtain ⟨q, a, b, c⟩ := h.logs i s hs; exact ⟨q, a, b, c.base hB⟩, h.apart, h.list.base hB, h.map, Nat.le_trans hB h.pB, Nat.le_trans hB h.mB, h.fits⟩
theorem rsrcBase {tS tL tB tR tO : TypeId} {w : World} {B B' : Nat} {x : RSrcX} {v : SrcV} (h : RSrcAt tS tL tB tR tO w B x v) (hB : B' ≤ B) : RSrcAt tS tL tB tR tO w B' x v :=
  ⟨h.row, h.heads.base hB, h.offs.base hB, h.len, fun i s hs => by obtain ⟨q, a, c⟩ := h.logs i s hs; exact ⟨q, a, c.base hB⟩, h.apart, h.list.base hB, Nat.le_trans hB h.qB, h.fits, h.keys⟩

/-- two made alike -/
theorem twin_new {w0 w1 w2 w3 : World} {parts : Int} {l : List OpV} {u u' : Value} (hg : Grew w0 w1) (h : NewS w1 parts l u w2) (h' : RNewS w2 parts l u' w3) : ∃ (pa pb : Option Addr) (e : Int) (t : Twin), u = .tuple #[.pointer pa, .int .i64 e] ∧ u' = .tuple #[.pointer pb, .int .i64 e] ∧ Option.isNone pa = Option.isNone pb ∧ TwinAt w0 w3 pa pb t ∧ Grew w1 w3 ∧ (∀ b, TFoot t b → w1.heap.size ≤ b) ∧ ((1 ≤ parts ∧ parts ≤ 4) ∧ checkB l = true → e = 0 ∧ Option.isNone pa = false) := by
  obtain ⟨g1, c⟩ := h
  obtain ⟨g2, c'⟩ := h'
  have hgg := g1.trans g2
  have s1 := hg.size
  have s2 := g1.size
  rcases c with ⟨hp, hv⟩ | ⟨hp, hc, hv⟩ | ⟨hp, hc, x, hv, hS⟩
  · rcases c' with ⟨-, hv'⟩ | ⟨hp', -⟩ | ⟨hp', -⟩
    · exact ⟨none, none, 1, none, hv, hv', rfl, ⟨rfl, rfl⟩, hgg, fun b hb => hb.elim, fun h => by omega⟩
    · omega
    · omega
  · rcases c' with ⟨hp', -⟩ | ⟨-, -, hv'⟩ | ⟨-, hc', -⟩
    · omega
    · exact ⟨none, none, 30, none, hv, hv', rfl, ⟨rfl, rfl⟩, hgg, fun b hb => hb.elim, fun h => by rw [hc] at h; cases h.2⟩
    · rw [hc] at hc'; cases hc'
  · rcases c' with ⟨hp', -⟩ | ⟨-, hc', -⟩ | ⟨-, -, y, hv', hR⟩
    · omega
    · rw [hc] at hc'; cases hc'
    · refine ⟨some ⟨x.p, 0, none⟩, some ⟨y.q, 0, none⟩, 0, some (x, y, srcNew parts.toNat l), hv, hv', rfl, ⟨rfl, rfl, srcBase (hS.grew g2) s1, rsrcBase hR (by omega), fun b hb hb' => ?_⟩, hgg, fun b hb => ?_, fun _ => ⟨rfl, rfl⟩⟩
      · have := (hS.foot hb).2; have := (hR.foot hb').1; omega
      · rcases hb with hb | hb
        · exact (hS.foot hb).1
        · exact Nat.le_trans s2 (hR.foot hb).1

theorem newS_form {w w' : World} {parts : Int} {l : List OpV} {u : Value} (h : NewS w parts l u w') : ∃ (p : Option Addr) (e : Int), u = .tuple #[.pointer p, .int .i64 e] := by
  obtain ⟨-, ⟨-, hv⟩ | ⟨-, -, hv⟩ | ⟨-, -, x, hv, -⟩⟩ := h
  · exact ⟨_, _, hv⟩
  · exact ⟨_, _, hv⟩
  · exact ⟨_, _, hv⟩

set_option maxHeartbeats 2000000 in
theorem SourceExact_ok {d : Int} {a b : Option Addr} {n c m k : Nat} {l : List OpV} {os : List Op7V} {w : World} (hd : (Lit.int .i64 d).wf = true) (hr : Reads w Enc.op3 (a, n, c) l) (hl : ∀ o ∈ l, o.Fits) (hn : l.length ≤ maxLen) (hb : l.length * 24 ≤ 140737488351232)
    (hi : Reads w Enc.op7 (b, m, k) os) (hf : ∀ x ∈ os, x.r.Fits) (hni : os.length ≤ maxLen) (hbi : os.length * 56 ≤ 140737488351232) :
    CallsW Tryz.prog 3 [.int .i64 d, .slice a n c, .slice b m k] w (Rets fun v w' => v = .bool true ∧ Grew w w') := by
  refine sx3.ok ?_
  unfold sx3
  have hm : m = os.length := hi.2.1
  subst hm
  refine awakeS_ok.use fun v w1 ⟨hv, hg1⟩ => ?_
  subst hv
  refine ⟨_, rfl, fun h => (by cases h), fun _ => ?_⟩
  refine (SNew_ok (hr.grew hg1) hl).use fun u5 w5 hN5 => ?_
  have hg5 := hg1.trans hN5.1
  obtain ⟨pa, e5, hu5⟩ := newS_form hN5
  refine ⟨pa, e5, hu5, (RNew_ok (hr.grew hg5) hl).use fun u10 w10 hN10 => ?_⟩
  obtain ⟨p1, q1, e1, t1, hu, hu', hiso, hT1, hg15, hF1, -⟩ := twin_new hg1 hN5 hN10
  rw [hu5] at hu
  simp only [Value.tuple.injEq, Array.mk.injEq, List.cons.injEq, Value.pointer.injEq, Value.int.injEq, and_true, true_and] at hu
  obtain ⟨rfl, rfl⟩ := hu
  have hg10 := hg1.trans hg15
  refine ⟨q1, e5, hu', fun h => (by simp at h), fun _ => ⟨fun h => (by rw [hiso] at h; simp at h), fun _ => ?_⟩⟩
  have hnil : ∀ w, Reads w Enc.op3 (none, 0, 0) ([] : List OpV) := fun w => (Own.nil w 0 0 Enc.op3).reads
  refine (SNew_ok (parts := 1) (hnil w10) (by simp)).use fun u15 w15 hN15 => ?_
  obtain ⟨pa2, e15, hu15⟩ := newS_form hN15
  refine ⟨pa2, e15, hu15, (RNew_ok (parts := 1) (hnil w15) (by simp)).use fun u20 w20 hN20 => ?_⟩
  obtain ⟨p2, q2, e2, t2, hu2, hu2', hiso2, hT2, hg1020, hF2, hok⟩ := twin_new hg10 hN15 hN20
  rw [hu15] at hu2
  simp only [Value.tuple.injEq, Array.mk.injEq, List.cons.injEq, Value.pointer.injEq, Value.int.injEq, and_true, true_and] at hu2
  obtain ⟨rfl, rfl⟩ := hu2
  obtain ⟨rfl, hsome⟩ := hok ⟨⟨by omega, by omega⟩, by decide⟩
  have hg20 := hg10.trans hg1020
  have hT1' := hT1.grew hg1020
  refine ⟨q2, 0, hu2', fun h => (by simp at h), fun _ => ⟨fun h => (by rw [hsome] at h; cases h), fun _ b25 w26 hal26 => ?_⟩⟩
  clear hN5 hN10 hN15 hN20 hu' hu2' hu15 hu5
  have hg26 := hg20.trans hal26.grew
  have hr26 : Row w26 b25 32 [.pointer none, .pointer none, .pointer none] := by simpa [Row] using hal26.at_
  obtain ⟨r0, r1, r2⟩ := hr26.setAll' (vs := [.pointer pa, .pointer pa2, .pointer none]) rfl
  refine ⟨r0, ?_⟩
  rintro w27 rfl b28 w29 hal29
  have hr29 : Row w29 b28 33 [.pointer none, .pointer none, .pointer none] := by simpa [Row] using hal29.at_
  obtain ⟨s0, s1, s2⟩ := hr29.setAll' (vs := [.pointer q1, .pointer q2, .pointer none]) rfl
  refine ⟨s0, ?_⟩
  rintro w30 rfl
  have z10 := hg10.size; have z20 := hg1020.size; have z26 := hal26.grew.size; have n26 := hal26.new; have l26 := hal26.lt
  have zr := r2.size; have n29 := hal29.new; have z29 := hal29.grew.size; have zs := s2.size
  have hne : b25 ≠ b28 := by omega
  have f1 : ∀ b, TFoot t1 b → b < w10.heap.size := fun b hb => (hT1.foot hb).2
  have f2 : ∀ b, TFoot t2 b → b < w20.heap.size := fun b hb => (hT2.foot hb).2
  have hfr : ∀ b, TFoot t1 b ∨ TFoot t2 b → b ≠ b25 ∧ b ≠ b28 := by
    intro b hb
    have : b < w20.heap.size := by
      rcases hb with hb | hb
      · have := f1 b hb; omega
      · exact f2 b hb
    exact ⟨by omega, by omega⟩
  have P0 : Play w (setCells w29 ⟨b28, 0, none⟩ 0 [.pointer q1, .pointer q2, .pointer none]) pa q1 pa2 q2 b25 b28 := by
    refine ⟨⟨t1, t2, ?_, ?_, fun b hb hb2 => ?_, hfr⟩, ?_, s1, ?_⟩
    · exact (((hT1'.grew hal26.grew).upd r2 fun b hb e => (hfr b (.inl hb)).1 e).grew hal29.grew).upd s2 fun b hb e => (hfr b (.inl hb)).2 e
    · exact (((hT2.grew hal26.grew).upd r2 fun b hb e => (hfr b (.inr hb)).1 e).grew hal29.grew).upd s2 fun b hb e => (hfr b (.inr hb)).2 e
    · have := f1 b hb; have := hF2 b hb2; omega
    · exact (r1.grew hal29.grew).upd s2 hne
    · refine ((hg26.then_own r2 fun b hb => ?_).trans hal29.grew).then_own s2 fun b hb => ?_
      · subst hb; have := hg20.size; omega
      · subst hb; have := hg20.size; omega
  generalize setCells w29 ⟨b28, 0, none⟩ 0 [.pointer q1, .pointer q2, .pointer none] = w30 at P0
  clear hT1 hT1' hT2 hF1 hF2 f1 f2 hfr r0 r1 r2 s0 s1 s2 hr26 hr29 hal26 hal29
  refine ⟨fun w' => Play w w' pa q1 pa2 q2 b25 b28, ⟨fun i w' => ∃ j : Nat, i = j ∧ j ≤ os.length ∧ Play w w' pa q1 pa2 q2 b25 b28, fun i _ => os.length - i.toNat, ⟨0, rfl, Nat.zero_le _, P0⟩, ?_⟩, ?_⟩
  · rintro i w34 ⟨j, rfl, hj, hP⟩
    refine ⟨fun hlt => ⟨fun _ => ?_, fun _ => hP⟩, fun _ => hP⟩
    simp only [decide_eq_true_eq] at hlt
    have hg34 := hP.grew
    have hw : IntKind.i64.wrap ((j : Int) + 1) = ((j + 1 : Nat) : Int) := by rw [IntKind.wrap_i64]; omega
    obtain ⟨da, x, hda, hx, hxc⟩ := (hi.grew hg34).at0 (k := j) (by omega)
    rw [hda]
    have hon := op7_on hxc
    refine ⟨⟨by omega, by omega⟩, x.on, hon, fun h => (by omega), fun _ n37 h37 w38 hg38 => ?_⟩
    have hu0 : 0 ≤ IntKind.u64.wrap x.on := by rw [IntKind.wrap_u64]; omega
    have h370 : 0 ≤ n37 := by rw [h37]; exact Int.tmod_nonneg 3 hu0
    have h373 : n37 < 3 := by rw [h37]; exact Int.tmod_lt_of_pos _ (by decide)
    have hw37 : IntKind.i64.wrap n37 = n37 := by rw [IntKind.wrap_i64]; omega
    rw [hw37, hw]
    have hP38 := hP.more hg38
    refine ⟨⟨h370, h373⟩, third n37 pa pa2, three hP38.have_ h370 h373, ⟨h370, h373⟩, third n37 q1 q2, three hP38.want h370 h373, ⟨by omega, by omega⟩, ?_⟩
    obtain ⟨t, hT, hnext⟩ := hP38.twin n37
    have hxc38 := hxc.grew hg38
    refine ⟨_, _, _, _, _, _, _, hxc38, ?_⟩
    refine (right_ok (o := x) hT (hf x (List.mem_of_getElem? hx)) hP38.grew.size).use fun v w49 ⟨hv, hS⟩ => ?_
    subst hv
    exact ⟨_, rfl, fun h => (by cases h), fun _ => ⟨⟨j + 1, rfl, by omega, hnext _ hS⟩, by show os.length - (((j + 1 : Nat) : Int)).toNat < os.length - ((j : Int)).toNat; omega⟩⟩
  intro w53 P53
  refine ⟨fun i w' => ∃ j : Nat, i = j ∧ j ≤ 3 ∧ Play w w' pa q1 pa2 q2 b25 b28, fun i _ => 3 - i.toNat, ⟨0, rfl, by omega, P53⟩, ?_⟩
  rintro n55 w56 ⟨j, rfl, hj, P56⟩
  refine ⟨fun hlt w57 hg57 => ?_, fun _ => ⟨_, rfl, rfl, P56.grew⟩⟩
  simp only [decide_eq_true_eq] at hlt
  have h0 : (0 : Int) ≤ (j : Int) := by omega
  have P57 := P56.more hg57
  have in3 : (0 : Int) ≤ (j : Int) ∧ (j : Int) < ((3 : Nat) : Int) := ⟨h0, by omega⟩
  have sb : ∀ {x y : World}, Play w x pa q1 pa2 q2 b25 b28 → Grew x y → SameB x y [Addr.add (⟨b28, 0, none⟩ : Addr) (((j : Nat) : Int).toNat * 1), Addr.add (⟨b25, 0, none⟩ : Addr) (((j : Nat) : Int).toNat * 1)] := by
    intro x y P hg
    rw [add_mk, add_mk]
    exact ⟨hg.block _ P.want.lt, hg.block _ P.have_.lt, trivial⟩
  have c25 : ∀ {x : World}, Play w x pa q1 pa2 q2 b25 b28 → x.cell? (Addr.add (⟨b25, 0, none⟩ : Addr) (((j : Nat) : Int).toNat * 1)) = some (.pointer (third j pa pa2)) := fun P => three P.have_ h0 hlt
  have c28 : ∀ {x : World}, Play w x pa q1 pa2 q2 b25 b28 → x.cell? (Addr.add (⟨b28, 0, none⟩ : Addr) (((j : Nat) : Int).toNat * 1)) = some (.pointer (third j q1 q2)) := fun P => three P.want h0 hlt
  obtain ⟨t, hT, -⟩ := P57.twin (j : Int)
  refine ⟨in3, _, c25 P57, in3, _, c28 P57, (tKeys_ok hT).use fun u w60 ⟨a62, l62, c62, hv, ho62, hg60⟩ => ?_⟩
  subst hv
  have P60 := P57.more hg60
  refine ⟨_, _, _, rfl, sb P57 hg60, (tKeys_okR (hT.grew hg60)).use fun u w64 ⟨a66, l66, c66, hv, ho66, hg64⟩ => ?_⟩
  subst hv
  have P64 := P60.more hg64
  refine ⟨_, _, _, rfl, (lkeys_ok (ho62.grew hg64).reads ho66.reads (by have := tKeys_len hT; omega)).use fun u w68 ⟨hv, hg68⟩ => ?_⟩
  subst hv
  have P68 := P64.more hg68
  have hT68 := ((hT.grew hg60).grew hg64).grew hg68
  refine ⟨_, rfl, fun h => (by cases h), fun _ => ⟨in3, _, c25 P68, in3, _, c28 P68, (tParts_ok hT68).use fun u w74 ⟨hv, hw'⟩ => ?_⟩⟩
  subst hv; subst hw'
  refine ⟨_, rfl, sb P68 (Grew.refl _), (tParts_okR hT68).use fun u w78 ⟨hv, hw'⟩ => ?_⟩
  subst hv; subst hw'
  refine ⟨_, rfl, sb P68 (Grew.refl _), fun h => (by simp at h), fun _ => ?_⟩
  refine ⟨fun i w' => ∃ r : Nat, i = (r : Int) - 1 ∧ r ≤ 6 ∧ Grew w78 w', fun i _ => (6 - i).toNat, ⟨0, rfl, by omega, Grew.refl _⟩, ?_⟩
  rintro n83 w84 ⟨r, rfl, hr6, hg84⟩
  have hwj : IntKind.i64.wrap ((j : Int) + 1) = ((j + 1 : Nat) : Int) := by rw [IntKind.wrap_i64]; omega
  refine ⟨fun hlt5 w85 hg85 => ?_, fun _ => ?_⟩
  · simp only [decide_eq_true_eq] at hlt5
    have hg85' := hg84.trans hg85
    have P85 := P68.more hg85'
    have hT85 := hT68.grew hg85'
    refine ⟨in3, _, c25 P85, in3, _, c28 P85, (tLog_ok hT85).use fun u w88 ⟨a90, l90, c90, hv, ho90, hg88⟩ => ?_⟩
    subst hv
    refine ⟨_, _, _, rfl, sb P85 hg88, (tLog_okR (hT85.grew hg88)).use fun u w92 ⟨a94, l94, c94, hv, ho94, hg92⟩ => ?_⟩
    subst hv
    refine ⟨_, _, _, rfl, (records_ok (ho90.grew hg92).reads ho94.reads (by have := tLog_len hT ((r : Int) - 1); omega)).use fun u w96 ⟨hv, hg96⟩ => ?_⟩
    subst hv
    have hg8596 := hg88.trans (hg92.trans hg96)
    have P96 := P85.more hg8596
    have hT96 := hT85.grew hg8596
    refine ⟨_, rfl, fun h => (by cases h), fun _ => ⟨in3, _, c25 P96, in3, _, c28 P96, (tUp_ok hT96).use fun u w102 ⟨hv, hw'⟩ => ?_⟩⟩
    subst hv; subst hw'
    refine ⟨_, rfl, sb P96 (Grew.refl _), (tUp_okR hT96).use fun u w106 ⟨hv, hw'⟩ => ?_⟩
    subst hv; subst hw'
    refine ⟨_, rfl, sb P96 (Grew.refl _), fun h => (by simp at h), fun _ => ⟨in3, _, c25 P96, in3, _, c28 P96, (tLen_ok hT96).use fun u w112 ⟨hv, hw'⟩ => ?_⟩⟩
    subst hv; subst hw'
    refine ⟨_, rfl, sameB_refl _ _, (tLen_okR hT96).use fun u w116 ⟨hv, hw'⟩ => ?_⟩
    subst hv; subst hw'
    have hwr : IntKind.i64.wrap ((r : Int) - 1 + 1) = ((r + 1 : Nat) : Int) - 1 := by rw [IntKind.wrap_i64]; omega
    rw [hwr]
    exact ⟨_, rfl, sameB_refl _ _, fun h => (by simp at h), fun _ => ⟨⟨r + 1, rfl, by omega, hg85'.trans hg8596⟩, by show (6 - (((r + 1 : Nat) : Int) - 1)).toNat < (6 - ((r : Int) - 1)).toNat; omega⟩⟩
  · rw [hwj]
    exact ⟨⟨j + 1, rfl, by omega, P68.more hg84⟩, by show 3 - (((j + 1 : Nat) : Int)).toNat < 3 - ((j : Int)).toNat; omega⟩

open Go.ChangeShapes Go.WideShapes Go.ChangeAt Go.RowKit
set_option maxRecDepth 100000 in
theorem sourceExact_lifted (os : Os) (started : os.Started) (H : Type) (enc : TypeId × Value → H) :
    ReturnsInHanded {} Tryz.checked os 3 .any (Rows.sourceExactSpec.pre6 enc Tryz.prog Tryz.f3 Rows.sourceExactRow.domain false) (Rows.sourceExactSpec.post enc Tryz.prog Tryz.f3 false true false false) := by
  refine returnsInHanded_of_change_sized (C := Tryz.checked) (by kernel_rfl) started (by kernel_rfl) Tryz.func3
    (ChangeSpec.witness6 (enc := enc) (C := Tryz.checked) false ⟨#[], #[.int .i64 0, .slice none 0 0, .slice none 0 0], []⟩ 8 (by kernel_rfl) (by kernel_rfl) (by kernel_rfl) (by kernel_rfl)) ?_
  intro W base args ds gs before hval0 hW hcnd hsz0 _
  have hval : ∀ (j : Nat) t v, Tryz.f3.params[j]? = some t → args[j]? = some v → Value.okWide Tryz.prog W .any base t v := hval0
  have hW' := hW
  obtain ⟨p, q, hA0, hV, rfl, hfz, hnd⟩ := hW
  have hA : DataW.TrodAll enc Tryz.prog W 0 (fun _ => true) true Tryz.f3.params.toList args.toList ds p := hA0
  have hsz : (DataW.weightsEach Tryz.prog (Tryz.f3.params.toList ++ _) (ds ++ gs)).all (· ≤ reachBytes) = true := hsz0
  rw [show Tryz.f3.params = #[3, 22, 23] from by kernel_rfl] at hA hval hsz
  have hA1 := hA
  obtain ⟨v0, vs0, d0, ds0, p0, q0, hargs, rfl, rfl, h0, r0⟩ := trodAll_cons hA
  obtain ⟨v1, vs1, d1, ds1, p1, q1, rfl, rfl, rfl, h1, r1⟩ := trodAll_cons r0
  obtain ⟨v2, vs2, d2, ds2, p2, q2, rfl, rfl, rfl, h2, r2⟩ := trodAll_cons r1
  obtain ⟨rfl, rfl, rfl⟩ := trodAll_nil r2
  obtain rfl : args = #[v0, v1, v2] := by cases args; simp_all
  obtain ⟨x0, rfl, hcl0⟩ := Go.Sx.open_int (P := Tryz.prog) (k := .i64) (t := 3) (by kernel_rfl) (hval 0 3 v0 rfl rfl) h0
  obtain ⟨a1, n1, c1, l1, rfl, hr1, hcl1, hn1, hb1⟩ := open_sub (P := Tryz.prog) (t := 22) (e := 53) (arg_sub (e := 53) (j := 1) hsz rfl rfl (by kernel_rfl) (hval 1 22 v1 rfl rfl) h1) (by kernel_rfl) op3_kinds (by kernel_rfl) (B := 24) (by kernel_rfl) (E := Enc.op3) rfl op3_of
  obtain ⟨a2, n2, c2, l2, rfl, hr2, hcl2, hn2, hb2⟩ := open_sub (P := Tryz.prog) (t := 23) (e := 40) (arg_sub (e := 40) (j := 2) hsz rfl rfl (by kernel_rfl) (hval 2 23 v2 rfl rfl) h2) (by kernel_rfl) op7_kinds (by kernel_rfl) (B := 56) (by kernel_rfl) (E := Enc.op7) rfl op7_of
  clear hA0 hA1 hval0 hsz0
  refine (CallsW.calls ⟨_, Tryz.func3, by kernel_rfl, by kernel_rfl⟩ (SourceExact_ok hcl0 hr1 hcl1 hn1 hb1 hr2 hcl2 hn2 hb2)).mono fun e W' ⟨w', hh, hk, v, he, hv, hg⟩ => ?_
  subst he; subst hv
  exact ⟨_, rfl, post_true (tb := 4) (by kernel_rfl) rfl (by kernel_rfl) (by kernel_rfl) ⟨rfl, rfl, rfl⟩ (by decide +kernel) hW' (below_of hg hh hk)⟩

theorem sourceExact_holds : Rows.SourceExactSaid :=
  OpenClaim.holds_of_wide 3 Tryz.f3 rfl rfl rfl rfl rfl rfl rfl ⟨rfl, rfl, rfl, rfl, rfl⟩ rfl rfl rfl rfl rfl (by kernel_rfl) Tryz.func3 (by kernel_rfl)
    (of_decide_eq_true (by kernel_rfl)) (by unfold Func.isWrapper; first | (rw [if_pos (by decide +kernel)]; kernel_rfl) | (rw [if_neg (by decide +kernel)]; exact ⟨rfl, rfl⟩))
    (fun os started H enc _ => sourceExact_lifted os started H enc)
end Go.Proofs.YtifhpmmdfjmppaaGreat
