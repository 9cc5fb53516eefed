/- The law's awake, and where its cases begin. Conditions: none. -/
import Derived.Test.YtcpkneemhfnanaaGreatProg
import Derived.Test.YtcpkneemhfnanaaGreatWorkL
import Derived.Test.YtcpkneemhfnanaaGreatSxWq
namespace Go.Proofs.YtcpkneemhfnanaaGreat
open Go.Sx
set_option maxRecDepth 100000
set_option linter.unusedVariables false
set_option linter.unusedSimpArgs false
/- reprise/repriselaw17.ready -/
def sx23 (d_0 : Int) (d_1 : Int) (d_2 : Int) (d_3 : Option Addr) (d_3_n d_3_c : Nat) (d_4 : Int) (d_5 : Int) (d_6 : Int) (d_7 : Int) (d_8 : Option Addr) (d_8_n d_8_c : Nat) (d_9 : Int) (d_10 : Option Addr) (d_10_n d_10_c : Nat) (R : Ending → World → Prop) (w : World) : Prop :=
  ∀ w1, Grew w w1 → ∀ w2, Grew w1 w2 → CallsW Tryz.prog 11 [.int .i64 d_0, .slice d_3 d_3_n d_3_c] w2 (RetR R fun u4 w3 => ∃ (p5 : Option Addr) (n6 : Int), u4 = .tuple #[.pointer p5, .int .i64 n6] ∧ (((n6 != 0) = true → R
    (.returned (.tuple #[.pointer none, .pointer none, .slice none 0 0])) w3) ∧ ((n6 != 0) = false → CallsW Tryz.prog 24 [.agg #[.int .i64 d_0, .int .i64 d_1, .int .i64 d_2, .slice d_3 d_3_n d_3_c, .int .i64 d_4, .int .i64
    d_5, .int .i64 d_6, .int .i64 d_7]] w3 (RetR R fun u9 w8 => ∃ (n10 : Int), u9 = .int .i64 n10 ∧ (((n10 != 0) = true → R (.returned (.tuple #[.pointer none, .pointer none, .slice none 0 0])) w8) ∧ ((n10 != 0) = false →
    ∃ (J12 : World → Prop), (∃ (I13 : Int → World → Prop) (m13 : Int → World → Nat), I13 0 w8 ∧ ∀ (n14 : Int) (w15 : World), I13 n14 w15 → (((decide (n14 < ((d_8_n : Nat) : Int))) = true → (((decide (n14 < 600)) = true →
    ∀ w16, Grew w15 w16 → withSome d_8 (fun d17 => (0 ≤ n14 ∧ n14 < (d_8_n : Nat)) ∧ ∃ (n18 : Int) (x19 : Nat), CellsAt w16 (Addr.add d17 (n14.toNat * 2)) 0 [.int .u64 n18, .float .f64 x19] ∧ ((d_0 = 0 → R (.panicked
    (divPanic Tryz.prog)) w16) ∧ (d_0 ≠ 0 → SameB w16 w16 [(Addr.add d17 (n14.toNat * 2))] ∧ CallsW Tryz.prog 16 [.pointer p5, .int .i64 (Int.tmod n14 d_0), .agg #[.int .u64 n18, .float .f64 x19]] w16 (RetR R fun u21 w20 =>
    ∃ (n22 : Int), u21 = .int .i64 n22 ∧ (I13 (IntKind.i64.wrap (n14 + 1)) w20 ∧ m13 (IntKind.i64.wrap (n14 + 1)) w20 < m13 n14 w15)))))) ∧ ((decide (n14 < 600)) = false → J12 w15))) ∧ ((decide (n14 < ((d_8_n : Nat) :
    Int))) = false → J12 w15))) ∧ ∀  (w24 : World), J12 w24 → CallsW Tryz.prog 18 [.pointer p5, .int .i64 d_9, .bool false] w24 (RetR R fun u26 w25 => ∃ (n27 : Int), u26 = .int .i64 n27 ∧ SemW Tryz.prog (Instr.makeSlice 44
    (.int .i64 d_0) (.int .i64 d_0)) (fun u30 w29 => ∃ (a31 : Option Addr) (l31 c31 : Nat), u30 = .slice a31 l31 c31 ∧ ∃ (I32 : Int → World → Prop) (m32 : Int → World → Nat), I32 0 w29 ∧ ∀ (n33 : Int) (w34 : World), I32
    n33 w34 → (((decide (n33 < d_0)) = true → (((decide (n33 < ((d_10_n : Nat) : Int))) = true → ∀ w35, Grew w34 w35 → withSome d_10 (fun d36 => (0 ≤ n33 ∧ n33 < (d_10_n : Nat)) ∧ ∃ (n37 : Int), w35.cell? (Addr.add d36
    (n33.toNat * 1)) = some (.int .i64 n37) ∧ CallsW Tryz.prog 63 [.pointer p5, .int .i64 n33] w35 (RetR R fun u39 w38 => ∃ (n40 : Int), u39 = .int .i64 n40 ∧ SameB w35 w38 [(Addr.add d36 (n33.toNat * 1))] ∧ ∀ n42 : Int,
    n42 = IntKind.u64.wrap (IntKind.i64.wrap (n40 + 1)) → ((n42 = 0 → R (.panicked (divPanic Tryz.prog)) w38) ∧ (n42 ≠ 0 → ∀ n43 : Int, n43 = Int.tmod (IntKind.u64.wrap n37) n42 → withSome a31 (fun d44 => (0 ≤ n33 ∧ n33 <
    (l31 : Nat)) ∧ RoomAt w38 (Addr.add d44 (n33.toNat * 1)) 0 [.int .i64 (IntKind.i64.wrap n43)] ∧ ∀ w45, w45 = setCells w38 (Addr.add d44 (n33.toNat * 1)) 0 [.int .i64 (IntKind.i64.wrap n43)] → (I32 (IntKind.i64.wrap
    (n33 + 1)) w45 ∧ m32 (IntKind.i64.wrap (n33 + 1)) w45 < m32 n33 w34))))))) ∧ ((decide (n33 < ((d_10_n : Nat) : Int))) = false → CallsW Tryz.prog 9 [.agg #[.int .i64 d_0, .int .i64 d_1, .int .i64 d_2, .slice d_3 d_3_n
    d_3_c, .int .i64 d_4, .int .i64 d_5, .int .i64 d_6, .int .i64 d_7], .int .i64 1] w34 (RetR R fun u47 w46 => ∃ (p48 : Option Addr) (n49 : Int), u47 = .tuple #[.pointer p48, .int .i64 n49] ∧ (((n49 != 0) = true → R
    (.returned (.tuple #[.pointer none, .pointer none, .slice none 0 0])) w46) ∧ ((n49 != 0) = false → R (.returned (.tuple #[.pointer p5, .pointer p48, .slice a31 l31 c31])) w46)))))) ∧ ((decide (n33 < d_0)) = false →
    CallsW Tryz.prog 9 [.agg #[.int .i64 d_0, .int .i64 d_1, .int .i64 d_2, .slice d_3 d_3_n d_3_c, .int .i64 d_4, .int .i64 d_5, .int .i64 d_6, .int .i64 d_7], .int .i64 1] w34 (RetR R fun u52 w51 => ∃ (p53 : Option Addr)
    (n54 : Int), u52 = .tuple #[.pointer p53, .int .i64 n54] ∧ (((n54 != 0) = true → R (.returned (.tuple #[.pointer none, .pointer none, .slice none 0 0])) w51) ∧ ((n54 != 0) = false → R (.returned (.tuple #[.pointer p5,
    .pointer p53, .slice a31 l31 c31])) w51)))))) w25)))))))
theorem sx23.ok {d_0 : Int} {d_1 : Int} {d_2 : Int} {d_3 : Option Addr} {d_3_n d_3_c : Nat} {d_4 : Int} {d_5 : Int} {d_6 : Int} {d_7 : Int} {d_8 : Option Addr} {d_8_n d_8_c : Nat} {d_9 : Int} {d_10 : Option Addr} {d_10_n d_10_c : Nat} {R : Ending → World → Prop} {w : World} (h : sx23 d_0 d_1 d_2 d_3 d_3_n d_3_c d_4 d_5 d_6 d_7 d_8 d_8_n d_8_c d_9 d_10 d_10_n d_10_c R w) : CallsW Tryz.prog 23 [.agg #[.int .i64 d_0, .int .i64 d_1, .int .i64 d_2, .slice d_3 d_3_n d_3_c, .int .i64 d_4, .int .i64 d_5, .int .i64 d_6, .int .i64 d_7, .slice d_8 d_8_n d_8_c, .int .i64 d_9, .slice d_10 d_10_n d_10_c]] w R :=
  callsW_of mix Tryz.func23 (by kernel_rfl) (by kernel_rfl) (Eq.mpr (by kernel_rfl : denFn Tryz.prog { locals := [1, 5], sem := [57], named := [83, 84], draws := [(8, { order := (.cons 0 (.cons 1 (.cons 2 (.cons 3 (.cons 5 (.cons 6 (.cons 7 (.cons 8 (.cons 9 (.cons 4 (.cons 10 .nil))))))))))), bars := [10] }), (14, { order := (.cons 0 (.cons 1 (.cons 2 (.cons 3 (.cons 4 (.cons 5 (.cons 6 (.cons 7 (.cons 8 (.cons 9 (.cons 10 (.cons 11 (.cons 12 (.cons 13 (.cons 14 (.cons 15 (.cons 16 .nil))))))))))))))))), bars := [13, 16] })], loops := [(6, { slots := [(8, .int .i64)], cells := [] }), (12, { slots := [(10, .int .i64)], cells := [] })], cuts := [(9, { slots := [], cells := [] })] } Tryz.f23 [.agg #[.int .i64 d_0, .int .i64 d_1, .int .i64 d_2, .slice d_3 d_3_n d_3_c, .int .i64 d_4, .int .i64 d_5, .int .i64 d_6, .int .i64 d_7, .slice d_8 d_8_n d_8_c, .int .i64 d_9, .slice d_10 d_10_n d_10_c]] R w = sx23 d_0 d_1 d_2 d_3 d_3_n d_3_c d_4 d_5 d_6 d_7 d_8 d_8_n d_8_c d_9 d_10 d_10_n d_10_c R w) h)

/- reprise/repriselaw17.msg -/
def sx25 (kind : Int) (from1 : Int) (code : Int) (ends : Option Addr) (ends_n ends_c : Nat) (R : Ending → World → Prop) (w : World) : Prop :=
  ∀ w1, Grew w w1 → R (.returned (.agg #[.int .i64 kind, .int .i64 from1, .int .i64 1, .int .i64 3, .int .i64 7, .int .i64 code, .slice ends ends_n ends_c, .slice none 0 0, .slice none 0 0])) w1
theorem sx25.ok {kind : Int} {from1 : Int} {code : Int} {ends : Option Addr} {ends_n ends_c : Nat} {R : Ending → World → Prop} {w : World} (h : sx25 kind from1 code ends ends_n ends_c R w) : CallsW Tryz.prog 25 [.int .i64 kind, .int .i64 from1, .int .i64 code, .slice ends ends_n ends_c] w R :=
  callsW_of mix Tryz.func25 (by kernel_rfl) (by kernel_rfl) (Eq.mpr (by kernel_rfl : denFn Tryz.prog { locals := [8] } Tryz.f25 [.int .i64 kind, .int .i64 from1, .int .i64 code, .slice ends ends_n ends_c] R w = sx25 kind from1 code ends ends_n ends_c R w) h)

/- reprise/repriselaw17.one -/
def sx26 (l : Option Addr) (l_n l_c : Nat) (e : Int) (kind : Int) (to : Int) (R : Ending → World → Prop) (w : World) : Prop :=
  ∀ w1, Grew w w1 → (((e != 0) = true → R (.returned (.tuple #[.agg #[.int .i64 0, .int .i64 0, .int .i64 0, .int .i64 0, .int .i64 0, .int .i64 0, .slice none 0 0, .slice none 0 0, .slice none 0 0], .bool false])) w1) ∧
    ((e != 0) = false → (((((l_n : Nat) : Int) != 1) = true → R (.returned (.tuple #[.agg #[.int .i64 0, .int .i64 0, .int .i64 0, .int .i64 0, .int .i64 0, .int .i64 0, .slice none 0 0, .slice none 0 0, .slice none 0 0],
    .bool false])) w1) ∧ ((((l_n : Nat) : Int) != 1) = false → withSome l (fun d2 => (0 ≤ (0 : Int) ∧ (0 : Int) < (l_n : Nat)) ∧ ∃ (n3 : Int), w1.cell? d2 = some (.int .i64 n3) ∧ (((n3 != kind) = true → R (.returned
    (.tuple #[.agg #[.int .i64 0, .int .i64 0, .int .i64 0, .int .i64 0, .int .i64 0, .int .i64 0, .slice none 0 0, .slice none 0 0, .slice none 0 0], .bool false])) w1) ∧ ((n3 != kind) = false → withSome l (fun d4 => (0
    ≤ (0 : Int) ∧ (0 : Int) < (l_n : Nat)) ∧ ∃ (n5 : Int), w1.cell? (Addr.add d4 2) = some (.int .i64 n5) ∧ (((n5 != to) = true → R (.returned (.tuple #[.agg #[.int .i64 0, .int .i64 0, .int .i64 0, .int .i64 0, .int .i64
    0, .int .i64 0, .slice none 0 0, .slice none 0 0, .slice none 0 0], .bool false])) w1) ∧ ((n5 != to) = false → withSome l (fun d6 => (0 ≤ (0 : Int) ∧ (0 : Int) < (l_n : Nat)) ∧ ∃ (n7 : Int), w1.cell? (Addr.add d6 1) =
    some (.int .i64 n7) ∧ (((n7 != 1) = true → R (.returned (.tuple #[.agg #[.int .i64 0, .int .i64 0, .int .i64 0, .int .i64 0, .int .i64 0, .int .i64 0, .slice none 0 0, .slice none 0 0, .slice none 0 0], .bool false]))
    w1) ∧ ((n7 != 1) = false → withSome l (fun d8 => (0 ≤ (0 : Int) ∧ (0 : Int) < (l_n : Nat)) ∧ ∃ (n9 : Int), w1.cell? (Addr.add d8 3) = some (.int .i64 n9) ∧ (((n9 != 3) = true → R (.returned (.tuple #[.agg #[.int .i64
    0, .int .i64 0, .int .i64 0, .int .i64 0, .int .i64 0, .int .i64 0, .slice none 0 0, .slice none 0 0, .slice none 0 0], .bool false])) w1) ∧ ((n9 != 3) = false → withSome l (fun d10 => (0 ≤ (0 : Int) ∧ (0 : Int) <
    (l_n : Nat)) ∧ ∃ (n11 : Int), w1.cell? (Addr.add d10 4) = some (.int .i64 n11) ∧ (((n11 != 7) = true → R (.returned (.tuple #[.agg #[.int .i64 0, .int .i64 0, .int .i64 0, .int .i64 0, .int .i64 0, .int .i64 0, .slice
    none 0 0, .slice none 0 0, .slice none 0 0], .bool false])) w1) ∧ ((n11 != 7) = false → withSome l (fun d12 => (0 ≤ (0 : Int) ∧ (0 : Int) < (l_n : Nat)) ∧ ∃ (n13 : Int) (n14 : Int) (n15 : Int) (n16 : Int) (n17 : Int)
    (n18 : Int) (a19 : Option Addr) (l19 c19 : Nat) (a20 : Option Addr) (l20 c20 : Nat) (a21 : Option Addr) (l21 c21 : Nat), CellsAt w1 d12 0 [.int .i64 n13, .int .i64 n14, .int .i64 n15, .int .i64 n16, .int .i64 n17,
    .int .i64 n18, .slice a19 l19 c19, .slice a20 l20 c20, .slice a21 l21 c21] ∧ R (.returned (.tuple #[.agg #[.int .i64 n13, .int .i64 n14, .int .i64 n15, .int .i64 n16, .int .i64 n17, .int .i64 n18, .slice a19 l19 c19,
    .slice a20 l20 c20, .slice a21 l21 c21], .bool true])) w1))))))))))))))))))))
theorem sx26.ok {l : Option Addr} {l_n l_c : Nat} {e : Int} {kind : Int} {to : Int} {R : Ending → World → Prop} {w : World} (h : sx26 l l_n l_c e kind to R w) : CallsW Tryz.prog 26 [.slice l l_n l_c, .int .i64 e, .int .i64 kind, .int .i64 to] w R :=
  callsW_of mix Tryz.func26 (by kernel_rfl) (by kernel_rfl) (Eq.mpr (by kernel_rfl : denFn Tryz.prog { locals := [8] } Tryz.f26 [.slice l l_n l_c, .int .i64 e, .int .i64 kind, .int .i64 to] R w = sx26 l l_n l_c e kind to R w) h)

def smallV : PlanV := ⟨1, 2, 1, [], 1, 2, 1, 8⟩
def awS1 : SrcV := ((srcNew 1 []).produce 0 ⟨1, 4617315517961601024⟩).1
def awS2 : SrcV := (awS1.produce 0 ⟨2, 4617315517961601024⟩).1
def awS : SrcV := (awS2.produce 0 ⟨1, 4618441417868443648⟩).1
def awW0 : WorkV := ⟨smallV, 1, []⟩
def awA (b : Bool) : AttV := ⟨4, [2], [[⟨2, true, 1⟩], [⟨1, true, 1⟩]], b, []⟩
def awW (b : Bool) : WorkV := ⟨smallV, 1, [(1, awA b)]⟩
def awM1 : MsgV := ⟨1, 0, 1, 1, 4, 0, [0], [], []⟩
def awM2 : MsgV := ⟨3, 0, 1, 1, 4, 0, [2], [], []⟩
def awM3 : MsgV := ⟨5, 3, 1, 1, 4, 0, [], [], []⟩
def awR1 : MsgV := ⟨2, 1, 0, 1, 4, 0, [2], [], []⟩
def awR2 : MsgV := ⟨4, 1, 2, 1, 4, 0, [], [2], []⟩
def awR3 : MsgV := ⟨4, 1, 3, 1, 4, 0, [], [1], []⟩
def awR4 : MsgV := ⟨6, 1, 3, 1, 4, 0, [], [], [⟨1, true, 1⟩]⟩
theorem aw_form : formV awS [0] 2 = ⟨[2], [⟨1, 4617315517961601024⟩, ⟨2, 4617315517961601024⟩], 0⟩ := by
  have h1 : endsE awS [0] = 0 := by decide +kernel
  have h2 : toV awS 2 [0] = [2] := by decide +kernel
  have h3 : btwV awS [0] [2] 1 = [⟨1, 4617315517961601024⟩, ⟨2, 4617315517961601024⟩] := by decide +kernel
  unfold formV
  rw [if_neg (by decide), if_pos h1, h2]
  simp only [List.length_singleton, h3]
theorem aw_table : tableT (bAll [] 1 [⟨1, 4617315517961601024⟩, ⟨2, 4617315517961601024⟩]).1 = [⟨1, true, 1⟩, ⟨2, true, 1⟩] := by
  have e1 : sortL [1, 2] = [1, 2] := strict_ext (sortL_strict (by decide)) (by decide) fun x => by rw [sortL_mem]
  have m1 : (bAll [] 1 [⟨1, 4617315517961601024⟩, ⟨2, 4617315517961601024⟩]).1 = [(1, ⟨true, 1⟩), (2, ⟨true, 1⟩)] := by decide +kernel
  rw [m1]
  show (sortL [1, 2]).map _ = _
  rw [e1]; rfl
theorem aw_take1 : awW0.take awS awM1 = ⟨awW false, [awR1], 0⟩ := by
  have hs : soundMsg awM1 = true := by decide +kernel
  have hk : kindP awW0.plan awM1.frm = 1 := by decide +kernel
  unfold WorkV.take
  rw [if_neg (by rw [hs]; decide), if_neg (by decide), if_pos ⟨rfl, hk⟩]
  unfold WorkV.assign
  rw [if_neg (by decide)]
  unfold WorkV.newA
  rw [show awM1.ends = [0] from rfl, show awW0.plan.batch = 2 from rfl, aw_form, if_neg (by decide), show awW0.plan.ops = [] from rfl, show awW0.plan.agg = 1 from rfl, aw_table]
  rfl
theorem aw_take2 : (awW false).take awS awM2 = ⟨awW true, [awR2, awR3], 0⟩ := by
  have hs : soundMsg awM2 = true := by decide +kernel
  have hk : kindP (awW false).plan awM2.frm = 1 := by decide +kernel
  unfold WorkV.take
  rw [if_neg (by rw [hs]; decide), if_neg (by decide), if_neg (by rw [hk]; decide), if_pos ⟨rfl, hk⟩]
  rfl
theorem aw_take3 : (awW true).take awS awM3 = ⟨awW true, [awR4], 0⟩ := by
  have hs : soundMsg awM3 = true := by decide +kernel
  have hk : kindP (awW true).plan awM3.frm = 3 := by decide +kernel
  unfold WorkV.take
  rw [if_neg (by rw [hs]; decide), if_neg (by decide), if_neg (by rw [hk]; decide), if_neg (by rw [hk]; decide), if_pos ⟨.inl rfl, hk⟩]
  rfl
theorem aw_tell : (awW true).tell = [⟨1, 4, [2], true, 0⟩] := by
  have e1 : sortL [1] = [1] := strict_ext (sortL_strict (by decide)) (by decide) fun x => by rw [sortL_mem]
  show (sortL [1]).map _ = _
  rw [e1]; rfl
theorem aw_good : goodP smallV = true ∧ kindP smallV 1 = 2 := by decide +kernel
theorem SrM.grewW {w0 w w' : World} {B : Nat} {x : SrcX} {v v' : SrcV} (h : SrM w B x w' v') (h0 : SrA w B x v) (hg : Grew w0 w) (hB : w0.heap.size ≤ B) : Grew w0 w' := by
  obtain ⟨x', h1, h2, h3, h4⟩ := h.out
  exact hg.then_own h3 fun b hb => Nat.le_trans hB (h0.foot hb).1
theorem WM.grewW {w0 w w' : World} {B : Nat} {X X' : WorkX} {V V' : WorkV} (h : WM w B X w' X' V') (h0 : WA w B X V) (hg : Grew w0 w) (hB : w0.heap.size ≤ B) : Grew w0 w' :=
  hg.then_own h.upd fun b hb => Nat.le_trans hB (h0.foot hb).1
theorem mread_of {w : World} {B : Nat} {a : Option Addr} {n c : Nat} {xs : List Msg} (h : MsgsOwn w B a n c xs) (hs : ∀ x ∈ xs, x.c.ends.length ≤ 1048576 ∧ x.c.keys.length ≤ 1048576 ∧ x.c.pairs.length ≤ 1048576) : MRead w a n c xs :=
  ⟨h.own.reads, fun x hx => ⟨(h.each x hx).at, hs x hx⟩⟩
/-- a source and a worker beside each other -/
structure Pair2 (w0 w : World) (sx : SrcX) (s : SrcV) (X : WorkX) (V : WorkV) : Prop where
  src : SrA w w0.heap.size sx s
  wrk : WA w w0.heap.size X V
  apart : ∀ b, sx.Foot b → ¬ WFoot X b
  grew : Grew w0 w
theorem Pair2.more {w0 w w' : World} {sx : SrcX} {s : SrcV} {X : WorkX} {V : WorkV} (h : Pair2 w0 w sx s X V) (hg : Grew w w') : Pair2 w0 w' sx s X V := ⟨h.src.grew hg, h.wrk.grew hg, h.apart, h.grew.trans hg⟩
theorem Pair2.moved {w0 w w' : World} {sx : SrcX} {s : SrcV} {X X' : WorkX} {V V' : WorkV} (h : Pair2 w0 w sx s X V) (hM : WM w w0.heap.size X w' X' V') : Pair2 w0 w' sx s X' V' := by
  refine ⟨h.src.upd hM.upd h.apart, hM.at_, fun b hb hf => ?_, hM.grewW h.wrk h.grew (Nat.le_refl _)⟩
  rcases hM.foot b hf with h1 | h1
  · exact h.apart b hb h1
  · have := (h.src.foot hb).2; omega
/-- messages that a worker's writes do not touch -/
structure Out (w : World) (X : WorkX) (a : Option Addr) (n c : Nat) (xs : List Msg) : Prop where
  own : MsgsOwn w 0 a n c xs
  a : ∀ b, Blk a b → ¬ WFoot X b
  x : ∀ x ∈ xs, ∀ b, x.Blk b → ¬ WFoot X b
theorem Out.more {w w' : World} {X : WorkX} {a : Option Addr} {n c : Nat} {xs : List Msg} (h : Out w X a n c xs) (hg : Grew w w') : Out w' X a n c xs := ⟨h.own.grew hg, h.a, h.x⟩
theorem Out.play {w w' : World} {X X' : WorkX} {a : Option Addr} {n c : Nat} {xs : List Msg} (h : Out w X a n c xs) (hu : Upd (WFoot X) w w') (hf : ∀ b, WFoot X' b → WFoot X b ∨ w.heap.size ≤ b) : Out w' X' a n c xs := by
  refine ⟨h.own.upd hu h.a h.x, fun b hb hb' => ?_, fun x hx b hb hb' => ?_⟩
  · rcases hf b hb' with h1 | h1
    · exact h.a b hb h1
    · have := (h.own.own.blk hb).2; omega
  · rcases hf b hb' with h1 | h1
    · exact h.x x hx b hb h1
    · have := ((h.own.each x hx).blk hb).2; omega
theorem Out.read {w : World} {X : WorkX} {a : Option Addr} {n c : Nat} {xs : List Msg} (h : Out w X a n c xs) (hs : ∀ x ∈ xs, x.c.ends.length ≤ 1048576 ∧ x.c.keys.length ≤ 1048576 ∧ x.c.pairs.length ≤ 1048576) : MRead w a n c xs := mread_of h.own hs
/-- a message is handed to the worker -/
structure Play (w0 w : World) (sx : SrcX) (s : SrcV) (X : WorkX) (r : TookV) (a : Option Addr) (n c : Nat) (w' : World) (X' : WorkX) (xs : List Msg) : Prop where
  p : X'.p = X.p
  pair : Pair2 w0 w' sx s X' r.w
  new : MsgsOwn w' w.heap.size a n c xs
  out : Out w' X' a n c xs
  is : xs.map (·.c) = r.l
  upd : Upd (WFoot X) w w'
  foot : ∀ b, WFoot X' b → WFoot X b ∨ w.heap.size ≤ b
theorem play_ok {w0 w : World} {sx : SrcX} {s : SrcV} {X : WorkX} {V : WorkV} {m : Msg} (h : Pair2 w0 w sx s X V) (hm : m.At w) (hl1 : m.c.ends.length ≤ 9223372036854775806) (hl2 : m.c.keys.length ≤ 9223372036854775806) (hl3 : m.c.pairs.length ≤ 9223372036854775806) :
    CallsW Tryz.prog 13 [.pointer (some ⟨X.p, 0, none⟩), .pointer (some ⟨sx.p, 0, none⟩), m.val] w (Rets fun u w' => ∃ a n c X' xs, u = .tuple #[.slice a n c, .int .i64 (V.take s m.c).e] ∧ Play w0 w sx s X (V.take s m.c) a n c w' X' xs) := by
  refine (WTake_ok (m := m) h.wrk h.src hm hl1 hl2 hl3 h.grew.size).mono fun e w' ⟨v, he, a, n, c, hv, X', xs, hM, hO, hc, h1, h2⟩ => ?_
  exact ⟨v, he, a, n, c, X', xs, hv, hM.p, h.moved hM, hO, ⟨hO.base (Nat.zero_le _), h1, h2⟩, hc, hM.upd, hM.foot⟩
theorem one_int {y z : World} {b : Nat} {k : Int} (hal : Alloc y z b (.cells #[.int .i64 k] 3)) : Reads z (Enc.int .i64) (some ⟨b, 0, none⟩, 1, 1) [k] := (Own.alloc (E := Enc.int .i64) (l := [k]) hal (Nat.le_refl _) rfl (by simp [maxLen])).reads
def CaseOk (p : PlanV) (w0 : World) (v : Value) (w' : World) : Prop :=
  Grew w0 w' ∧ ((goodP p = false ∧ v = .tuple #[.pointer none, .pointer none, .slice none 0 0]) ∨
    (goodP p = true ∧ ∃ sx s X a n c f, v = .tuple #[.pointer (some ⟨sx.p, 0, none⟩), .pointer (some ⟨X.p, 0, none⟩), .slice a n c] ∧ Pair2 w0 w' sx s X ⟨p, 1, []⟩ ∧ Own w' w0.heap.size 3 (Enc.int .i64) a n c f ∧ (∀ b, Blk a b → ¬ sx.Foot b ∧ ¬ WFoot X b) ∧ endsE s f = 0 ∧ (s.parts.length : Int) = p.parts ∧ s.list = p.ops))
theorem awakeW_ok {w : World} : CallsW Tryz.prog 8 [] w (Rets fun v w' => v = .bool true ∧ Grew w w') := by
  refine sx8.ok ?_
  unfold sx8
  have hnil : ∀ w, Reads w Enc.op3 (none, 0, 0) ([] : List OpV) := fun w => (Own.nil w 0 0 Enc.op3).reads
  refine (SNew_ok (parts := 1) (hnil w) (by simp)).use fun u w1 ⟨hg1, hc⟩ => ?_
  rcases hc with ⟨hp, -⟩ | ⟨-, hc, -⟩ | ⟨-, -, sx, hv, hS⟩
  · omega
  · have : checkB [] = true := by decide
    rw [this] at hc; cases hc
  subst hv
  refine ⟨_, _, rfl, ?_⟩
  refine sx37.ok ?_
  unfold sx37
  intro w2 hg2
  refine ⟨_, _, _, _, _, _, _, _, _, _, rfl, ?_⟩
  have hg2' := hg1.trans hg2
  refine (WNew_ok (x := ⟨smallV, (none, 0, 0)⟩) (node := 1) (hnil w2) (by simp [smallV])).use fun u w17 ⟨hg17, hc⟩ => ?_
  rcases hc with ⟨hb, -⟩ | ⟨-, hb, -⟩ | ⟨-, -, X, hv, hW⟩
  · rw [aw_good.1] at hb; cases hb
  · exact (hb aw_good.2).elim
  subst hv
  have hg17' := hg2'.trans hg17
  refine ⟨_, _, rfl, fun h => (by simp at h), fun _ => ⟨fun h => (by simp at h), fun _ => ⟨fun h => (by simp at h), fun _ => ⟨fun h => (by simp at h), fun _ => ?_⟩⟩⟩⟩
  have fr : ∀ k x : Nat, k < 100 → x < 18446744073709551616 → RecV.Fits ⟨(k : Int), x⟩ := fun k x h1 h2 => ⟨⟨by simp only; omega, by simp only [u64m]; omega⟩, h2⟩
  have hS17 := hS.grew (hg2.trans hg17)
  have hB : w.heap.size ≤ w17.heap.size := hg17'.size
  have hsz2 : ∀ b, sx.Foot b → b < w2.heap.size := fun b hb => ((hS.grew hg2).foot hb).2
  refine (Produce_ok (p := 0) (r := ⟨1, 4617315517961601024⟩) hS17 (fr 1 _ (by omega) (by omega)) hB).use fun u w22 ⟨hv, hM⟩ => ?_
  subst hv
  obtain ⟨x1, a1, a2, a3, a4⟩ := hM.out
  have hg22 : Grew w w22 := SrM.grewW hM hS17 hg17' (Nat.le_refl _)
  have hW22 := (hW.base (Nat.le_trans hg2'.size (Nat.le_refl _))).upd a3 fun b hb hb' => by have := (hW.foot hb).1; have := hsz2 b hb'; omega
  have hap1 : ∀ b, x1.Foot b → ¬ WFoot X b := fun b hb hb' => by
    have h1 := hW.foot hb'
    rcases a4 b hb with h2 | h2
    · have := hsz2 b h2; omega
    · omega
  refine ⟨_, rfl, ?_⟩
  rw [← a2]
  refine (Produce_ok (p := 0) (r := ⟨2, 4617315517961601024⟩) a1 (fr 2 _ (by omega) (by omega)) hg22.size).use fun u w26 ⟨hv, hM2⟩ => ?_
  subst hv
  obtain ⟨x2, b1, b2, b3, b4⟩ := hM2.out
  have hg26 : Grew w w26 := SrM.grewW hM2 a1 hg22 (Nat.le_refl _)
  have hW26 := hW22.upd b3 fun b hb hb' => hap1 b hb' hb
  have hap2 : ∀ b, x2.Foot b → ¬ WFoot X b := fun b hb hb' => by
    rcases b4 b hb with h2 | h2
    · exact hap1 b h2 hb'
    · have := (hW22.foot hb').2; omega
  refine ⟨_, rfl, ?_⟩
  rw [← b2]
  refine (Produce_ok (p := 0) (r := ⟨1, 4618441417868443648⟩) b1 (fr 1 _ (by omega) (by omega)) hg26.size).use fun u w30 ⟨hv, hM3⟩ => ?_
  subst hv
  obtain ⟨x3, c1, c2, c3, c4⟩ := hM3.out
  have hg30 : Grew w w30 := SrM.grewW hM3 b1 hg26 (Nat.le_refl _)
  have hW30 := hW26.upd c3 fun b hb hb' => hap2 b hb' hb
  have hap3 : ∀ b, x3.Foot b → ¬ WFoot X b := fun b hb hb' => by
    rcases c4 b hb with h2 | h2
    · exact hap2 b h2 hb'
    · have := (hW26.foot hb').2; omega
  have P0 : Pair2 w w30 x3 awS X awW0 := ⟨c1, hW30, hap3, hg30⟩
  refine ⟨_, rfl, fun b34 w35 hal35 => ?_⟩
  rw [← c2]
  refine (play_ok (m := ⟨awM1, (some ⟨b34, 0, none⟩, 1, 1), (none, 0, 0), (none, 0, 0)⟩) (P0.more hal35.grew) ⟨one_int hal35, Reads.nil, Reads.nil⟩ (by simp [awM1]) (by simp [awM1]) (by simp [awM1])).use fun u w36 ⟨a38, l38, c38, X1, xs1, hv, P1⟩ => ?_
  rw [aw_take1] at hv P1
  subst hv
  refine ⟨_, _, _, _, rfl, fun b41 w42 hal42 => ?_⟩
  rw [← P1.p]
  refine (play_ok (m := ⟨awM2, (some ⟨b41, 0, none⟩, 1, 1), (none, 0, 0), (none, 0, 0)⟩) (P1.pair.more hal42.grew) ⟨one_int hal42, Reads.nil, Reads.nil⟩ (by simp [awM2]) (by simp [awM2]) (by simp [awM2])).use fun u w43 ⟨a45, l45, c45, X2, xs2, hv, P2⟩ => ?_
  rw [aw_take2] at hv P2
  subst hv
  refine ⟨_, _, _, _, rfl, ?_⟩
  rw [← P2.p]
  refine (play_ok (m := ⟨awM3, (none, 0, 0), (none, 0, 0), (none, 0, 0)⟩) P2.pair ⟨Reads.nil, Reads.nil, Reads.nil⟩ (by simp [awM3]) (by simp [awM3]) (by simp [awM3])).use fun u w48 ⟨a50, l50, c50, X3, xs3, hv, P3⟩ => ?_
  rw [aw_take3] at hv P3
  subst hv
  have O1 := ((P1.out.more hal42.grew).play P2.upd P2.foot).play P3.upd P3.foot
  have O2 := P2.out.play P3.upd P3.foot
  have O3 := P3.out
  have small : ∀ {xs : List Msg} {l : List MsgV}, xs.map (·.c) = l → (∀ m ∈ l, m.ends.length ≤ 1 ∧ m.keys.length ≤ 1 ∧ m.pairs.length ≤ 1) → ∀ x ∈ xs, x.c.ends.length ≤ 1048576 ∧ x.c.keys.length ≤ 1048576 ∧ x.c.pairs.length ≤ 1048576 := fun he hl x hx => by
    have := hl x.c (he ▸ List.mem_map_of_mem (f := (·.c)) hx); omega
  have M1 := O1.read (small P1.is (by simp [awR1]))
  have M2 := O2.read (small P2.is (by simp [awR2, awR3]))
  have M3 := O3.read (small P3.is (by simp [awR4]))
  have G48 : Grew w w48 := P3.pair.grew
  refine ⟨_, _, _, _, rfl, fun _ => ⟨fun _ => ⟨fun _ b53 w54 hal54 b55 w56 hal56 => ?_, fun h => (by simp at h)⟩, fun h => (by simp at h)⟩, fun h => (by simp at h)⟩
  have g56 := hal54.grew.trans hal56.grew
  have Y1 : MRead w56 (some ⟨b55, 0, none⟩) 1 1 [⟨awR1, (some ⟨b53, 0, none⟩, 1, 1), (none, 0, 0), (none, 0, 0)⟩] := ⟨(Own.alloc (E := Enc.msg) (l := [_]) hal56 (Nat.le_refl _) rfl (by simp [maxLen])).reads, fun x hx => by
    simp at hx; subst hx; exact ⟨⟨(one_int hal54).grew hal56.grew, Reads.nil, Reads.nil⟩, by simp [awR1]⟩⟩
  refine (msgs_ok (M1.grew g56) Y1 P1.is (by have := congrArg List.length P1.is; simp at this; omega)).use fun u w57 ⟨hv, hg57⟩ => ?_
  subst hv
  refine ⟨_, rfl, fun _ b61 w62 hal62 b63 w64 hal64 b65 w66 hal66 => ?_, fun h => (by cases h)⟩
  have g66 := hg57.trans (hal62.grew.trans (hal64.grew.trans hal66.grew))
  have ku : ∀ {y z : World} {b : Nat} {k : Int}, Alloc y z b (.cells #[.int .u64 k] 40) → Reads z (Enc.int .u64) (some ⟨b, 0, none⟩, 1, 1) [k] := fun {y z b k} hal => (Own.alloc (E := Enc.int .u64) (l := [k]) hal (Nat.le_refl _) rfl (by simp [maxLen])).reads
  have Y2 : MRead w66 (some ⟨b65, 0, none⟩) 2 2 [⟨awR2, (none, 0, 0), (some ⟨b61, 0, none⟩, 1, 1), (none, 0, 0)⟩, ⟨awR3, (none, 0, 0), (some ⟨b63, 0, none⟩, 1, 1), (none, 0, 0)⟩] := ⟨(Own.alloc (E := Enc.msg) (l := [_, _]) hal66 (Nat.le_refl _) rfl (by simp [maxLen])).reads, fun x hx => by
    simp at hx
    rcases hx with rfl | rfl
    · exact ⟨⟨Reads.nil, ((ku hal62).grew hal64.grew).grew hal66.grew, Reads.nil⟩, by simp [awR2]⟩
    · exact ⟨⟨Reads.nil, (ku hal64).grew hal66.grew, Reads.nil⟩, by simp [awR3]⟩⟩
  refine (msgs_ok (M2.grew (g56.trans g66)) Y2 P2.is (by have := congrArg List.length P2.is; simp at this; omega)).use fun u w67 ⟨hv, hg67⟩ => ?_
  subst hv
  refine ⟨_, rfl, fun _ b71 w72 hal72 b73 w74 hal74 => ?_, fun h => (by cases h)⟩
  have g74 := hg67.trans (hal72.grew.trans hal74.grew)
  have Y3 : MRead w74 (some ⟨b73, 0, none⟩) 1 1 [⟨awR4, (none, 0, 0), (none, 0, 0), (some ⟨b71, 0, none⟩, 1, 1)⟩] := ⟨(Own.alloc (E := Enc.msg) (l := [_]) hal74 (Nat.le_refl _) rfl (by simp [maxLen])).reads, fun x hx => by
    simp at hx; subst hx; exact ⟨⟨Reads.nil, Reads.nil, ((Own.alloc (E := Enc.pair) (l := [⟨1, true, 1⟩]) hal72 (Nat.le_refl _) rfl (by simp [maxLen])).reads).grew hal74.grew⟩, by simp [awR4]⟩⟩
  refine (msgs_ok (M3.grew (g56.trans (g66.trans g74))) Y3 P3.is (by have := congrArg List.length P3.is; simp at this; omega)).use fun u w75 ⟨hv, hg75⟩ => ?_
  subst hv
  refine ⟨_, rfl, fun _ => ?_, fun h => (by cases h)⟩
  have g75 := g56.trans (g66.trans (g74.trans hg75))
  rw [← P3.p]
  refine (WHeld_ok (P3.pair.wrk.grew g75) (by simp [awW])).use fun u w79 ⟨a81, l81, c81, hs, hv, hO, hh, hg79⟩ => ?_
  rw [aw_tell] at hh
  subst hv
  refine ⟨_, _, _, rfl, fun b83 w84 hal84 b85 w86 hal86 => ?_⟩
  have g86 := hal84.grew.trans hal86.grew
  have Y4 : HRead w86 (some ⟨b85, 0, none⟩) 1 1 [⟨⟨1, 4, [2], true, 0⟩, (some ⟨b83, 0, none⟩, 1, 1)⟩] := ⟨(Own.alloc (E := Enc.held) (l := [_]) hal86 (Nat.le_refl _) rfl (by simp [maxLen])).reads, fun x hx => by
    simp at hx; subst hx; exact ⟨(one_int hal84).grew hal86.grew, by simp⟩⟩
  have hse : ∀ x ∈ hs, x.c.ends.length ≤ 1048576 := fun x hx => by
    have : x.c ∈ [(⟨1, 4, [2], true, 0⟩ : HeldV)] := hh ▸ List.mem_map_of_mem (f := (·.c)) hx
    simp at this; rw [this]; simp
  have X4 : HRead w86 a81 l81 c81 hs := ⟨(hO.own.grew g86).reads, fun x hx => ⟨((hO.each x hx).grew g86).reads, hse x hx⟩⟩
  refine (held_ok X4 Y4 hh (by have := congrArg List.length hh; simp at this; omega)).use fun u w87 ⟨hv, hg87⟩ => ?_
  subst hv
  exact ⟨_, rfl, _, rfl, rfl, G48.trans (g75.trans (hg79.trans (g86.trans hg87)))⟩
theorem msgK_ok {k f cd : Int} {a : Option Addr} {n c : Nat} {w : World} : CallsW Tryz.prog 25 [.int .i64 k, .int .i64 f, .int .i64 cd, .slice a n c] w (Rets fun v w' => v = .agg #[.int .i64 k, .int .i64 f, .int .i64 1, .int .i64 3, .int .i64 7, .int .i64 cd, .slice a n c, .slice none 0 0, .slice none 0 0] ∧ Grew w w') := by
  refine sx25.ok ?_
  unfold sx25
  exact fun w1 hg => ⟨_, rfl, rfl, hg⟩
/-- the one message of an answer -/
theorem one_ok {a : Option Addr} {n c : Nat} {xs : List Msg} {m : MsgV} {kind to : Int} {w : World} (hr : Reads w Enc.msg (a, n, c) xs) (hx : xs.map (·.c) = [m]) (hk : m.kind = kind) (ht : m.to = to) (hf : m.frm = 1) (hb : m.batch = 3) (ha : m.att = 7) :
    ∃ x : Msg, xs = [x] ∧ x.c = m ∧ CallsW Tryz.prog 26 [.slice a n c, .int .i64 0, .int .i64 kind, .int .i64 to] w (Rets fun v w' => v = .tuple #[x.val, .bool true] ∧ Grew w w') := by
  match xs, hx with
  | [x], hx =>
    have hxc : x.c = m := by simpa using hx
    refine ⟨x, rfl, hxc, ?_⟩
    refine sx26.ok ?_
    unfold sx26
    have hn : n = 1 := hr.2.1
    subst hn
    intro w1 hg1
    obtain ⟨d, y, rfl, hy, hc⟩ := (hr.grew hg1).at0 (k := 0) (by omega)
    cases hy
    rw [Nat.zero_mul, Addr.add_zero'] at hc
    subst hxc
    have h0 := cellsAt_get hc 0 _ rfl
    have h1 := cellsAt_get hc 1 _ rfl
    have h2 := cellsAt_get hc 2 _ rfl
    have h3 := cellsAt_get hc 3 _ rfl
    have h4 := cellsAt_get hc 4 _ rfl
    simp only [Nat.zero_add, Addr.add_zero'] at h0 h1 h2 h3 h4
    have bd : (0 : Int) ≤ (0 : Int) ∧ (0 : Int) < ((1 : Nat) : Int) := by omega
    refine ⟨fun h => (by cases h), fun _ => ⟨fun h => (by cases h), fun _ => ⟨bd, _, h0, fun h => (by simp [hk] at h), fun _ => ⟨bd, _, h2, fun h => (by simp [ht] at h), fun _ => ⟨bd, _, h1, fun h => (by simp [hf] at h), fun _ => ⟨bd, _, h3, fun h => (by simp [hb] at h), fun _ => ⟨bd, _, h4, fun h => (by simp [ha] at h), fun _ => ⟨bd, _, _, _, _, _, _, _, _, _, _, _, _, _, _, _, hc, ?_⟩⟩⟩⟩⟩⟩⟩⟩
    exact ⟨_, rfl, rfl, hg1⟩
  | [], hx => simp at hx
  | _ :: _ :: _, hx => simp at hx
theorem elInt8 : (Tryz.prog.info? 3).map (fun i => (i.zero, i.size, i.bytes)) = some (some (.int .i64 0), (Enc.int .i64).sz, 8) := by kernel_rfl
theorem produce_parts (v : SrcV) (p : Int) (r : RecV) : (v.produce p r).1.parts.length = v.parts.length ∧ (v.produce p r).1.list = v.list := ⟨(produce_shape v p r).2, (produce_shape v p r).1⟩
theorem switch_parts (v : SrcV) (p : Int) (on : Bool) : (v.switch p on).1.parts.length = v.parts.length ∧ (v.switch p on).1.list = v.list := by
  unfold SrcV.switch
  cases v.getP p <;> simp [SrcV.setP]
theorem srcBase {tS tP tR tO : TypeId} {w : World} {B B' : Nat} {x : SrcX} {v : SrcV} (h : SrcAt tS tP tR tO w B x v) (hB : B' ≤ B) : SrcAt tS tP tR tO w B' x v :=
  ⟨h.row, h.parts.base hB, h.len, fun i s hs => by obtain ⟨q, a, b, c⟩ := h.logs i s hs; exact ⟨q, a, b, c.base hB⟩, h.apart, h.list.base hB, h.map, Nat.le_trans hB h.pB, Nat.le_trans hB h.mB, h.fits⟩
/-- a source that is under way -/
def SrcOn (w0 : World) (p : Nat) (n : Int) (l : List OpV) (w' : World) : Prop := ∃ sx s, sx.p = p ∧ SrA w' w0.heap.size sx s ∧ (s.parts.length : Int) = n ∧ s.list = l ∧ Grew w0 w'
theorem SrcOn.more {w0 w w' : World} {p : Nat} {n : Int} {l : List OpV} (h : SrcOn w0 p n l w) (hg : Grew w w') : SrcOn w0 p n l w' := by
  obtain ⟨sx, s, h1, h2, h3, h4, h5⟩ := h
  exact ⟨sx, s, h1, h2.grew hg, h3, h4, h5.trans hg⟩
set_option maxHeartbeats 1000000 in
theorem ready_ok {p : Plan} {ra fa : Option Addr} {rn rc fn fc : Nat} {off : Int} {rs : List RecV} {fr : List Int} {w : World} (hp : p.At w) (ho : ∀ o ∈ p.c.ops, o.Fits) (hr : Reads w Enc.rcd (ra, rn, rc) rs) (hrf : ∀ r ∈ rs, r.Fits) (hf : Reads w (Enc.int .i64) (fa, fn, fc) fr) :
    CallsW Tryz.prog 23 [.agg #[.int .i64 p.c.parts, .int .i64 p.c.stores, .int .i64 p.c.workers, .slice p.o.1 p.o.2.1 p.o.2.2, .int .i64 p.c.agg, .int .i64 p.c.batch, .int .i64 p.c.window, .int .i64 p.c.giveUp, .slice ra rn rc, .int .i64 off, .slice fa fn fc]] w (Rets (CaseOk p.c w)) := by
  refine sx23.ok ?_
  unfold sx23
  have hrn : rn = rs.length := hr.2.1
  subst hrn
  have hfn : fn = fr.length := hf.2.1
  subst hfn
  intro w1 hg1 w2 hg2
  have hg2 := hg1.trans hg2
  have no : ∀ {y : World}, goodP p.c = false → Grew w y → Rets (CaseOk p.c w) (.returned (.tuple #[.pointer none, .pointer none, .slice none 0 0])) y := fun hb hg => ⟨_, rfl, hg, .inl ⟨hb, rfl⟩⟩
  have nogood : ∀ (h : ¬ GoodP p.c), goodP p.c = false := fun h => by
    cases hc : goodP p.c with
    | false => rfl
    | true => exact (h (goodP_iff.1 hc)).elim
  refine (SNew_ok (parts := p.c.parts) (hp.grew hg2) ho).use fun u w3 ⟨hg3, hc⟩ => ?_
  have hg3' := hg2.trans hg3
  rcases hc with ⟨hb, hv⟩ | ⟨-, hb, hv⟩ | ⟨hb, hops, sx, hv, hS⟩
  · subst hv
    exact ⟨_, _, rfl, fun _ => no (nogood fun h => by have := h.parts; omega) hg3', fun h => (by cases h)⟩
  · subst hv
    exact ⟨_, _, rfl, fun _ => no (nogood fun h => by rw [h.ops] at hb; cases hb) hg3', fun h => (by cases h)⟩
  subst hv
  refine ⟨_, _, rfl, fun h => (by cases h), fun _ => (PCheck_ok (hp.grew hg3')).use fun u w8 ⟨hv, hg8⟩ => ?_⟩
  subst hv
  have hg8' := hg3'.trans hg8
  refine ⟨_, rfl, fun hne => no (by
    cases hc : goodP p.c with
    | false => rfl
    | true => rw [checkP_good.2 hc] at hne; cases hne) hg8', fun h0 => ?_⟩
  have hgd : goodP p.c = true := checkP_good.1 (by simpa using h0)
  have hG := goodP_iff.1 hgd
  have hPt := hG.parts
  have on8 : SrcOn w sx.p p.c.parts p.c.ops w8 := ⟨sx, _, rfl, srcBase (hS.grew hg8) hg2.size, by simp [srcNew]; omega, rfl, hg8'⟩
  refine ⟨fun w' => SrcOn w sx.p p.c.parts p.c.ops w', ⟨fun i w' => ∃ k : Nat, i = k ∧ k ≤ rs.length ∧ SrcOn w sx.p p.c.parts p.c.ops w', fun i _ => rs.length - i.toNat, ⟨0, rfl, Nat.zero_le _, on8⟩, ?_⟩, ?_⟩
  · rintro n14 w15 ⟨k, rfl, hk, on15⟩
    refine ⟨fun hlt => ⟨fun h600 w16 hg16 => ?_, fun _ => on15⟩, fun _ => on15⟩
    simp only [decide_eq_true_eq] at hlt h600
    have hw : IntKind.i64.wrap ((k : Int) + 1) = ((k + 1 : Nat) : Int) := by rw [IntKind.wrap_i64]; omega
    obtain ⟨x, s, e1, hA, e2, e3, hg⟩ := on15.more hg16
    obtain ⟨d, r, rfl, hrk, hrc⟩ := (hr.grew hg).at0 (k := k) (by omega)
    have hrcell : CellsAt w16 (Addr.add d (((k : Nat) : Int).toNat * 2)) 0 [.int .u64 r.key, .float .f64 r.val] := hrc
    refine ⟨⟨by omega, by omega⟩, _, _, hrcell, fun h => (by omega), fun _ => ⟨⟨rfl, trivial⟩, ?_⟩⟩
    rw [← e1]
    refine (Produce_ok (p := Int.tmod (k : Int) p.c.parts) (r := r) hA (hrf r (List.mem_of_getElem? hrk)) hg.size).use fun u w20 ⟨hv, hM⟩ => ?_
    subst hv
    obtain ⟨x', a1, a2, a3, a4⟩ := hM.out
    have hp' := produce_parts s (Int.tmod (k : Int) p.c.parts) r
    exact ⟨_, rfl, ⟨k + 1, hw, by omega, x', _, a2, a1, by rw [hp'.1]; exact e2, by rw [hp'.2]; exact e3, SrM.grewW hM hA hg (Nat.le_refl _)⟩, by simp only [hw]; omega⟩
  rintro w24 ⟨x, s, e1, hA, e2, e3, hg24⟩
  rw [← e1]
  refine (Switch_ok (p := off) (on := false) hA).use fun u w25 ⟨hv, hM⟩ => ?_
  subst hv
  obtain ⟨y, a1, a2, a3, a4⟩ := hM.out
  have hp' := switch_parts s off false
  have hg25 : Grew w w25 := SrM.grewW hM hA hg24 (Nat.le_refl _)
  rw [← a2]
  generalize hv : (s.switch off false).1 = v at a1 hp'
  have hvl : (v.parts.length : Int) = p.c.parts := by rw [hp'.1]; exact e2
  refine ⟨_, rfl, ?_⟩
  have hpn : p.c.parts = (p.c.parts.toNat : Int) := by omega
  have mk : SemW Tryz.prog (Instr.makeSlice 44 (.int .i64 (p.c.parts.toNat : Int)) (.int .i64 (p.c.parts.toNat : Int))) = SemW Tryz.prog (Instr.makeSlice 44 (.int .i64 p.c.parts) (.int .i64 p.c.parts)) := by rw [← hpn]
  rw [← mk]
  refine make_own (e := 3) (E := Enc.int .i64) (x := 0) (z := .int .i64 0) (bytes := 8) (by kernel_rfl) elInt8 rfl (by omega) (by simp only [maxLen]; omega) ?_
  rintro u29 w29 ⟨a31, l31, c31, rfl, ho29, hg29⟩
  have hl31 : l31 = p.c.parts.toNat := by rw [ho29.len]; simp
  have hA29 := a1.grew hg29
  have hg29' := hg25.trans hg29
  have ownW : ∀ {y' : World} {f : List Int}, Own y' w25.heap.size 3 (Enc.int .i64) a31 l31 c31 f → Grew w25 y' → (∀ (i : Nat) (e : Int), f[i]? = some e → 0 ≤ e ∧ e ≤ v.len i) →
      CallsW Tryz.prog 9 [.agg #[.int .i64 p.c.parts, .int .i64 p.c.stores, .int .i64 p.c.workers, .slice p.o.1 p.o.2.1 p.o.2.2, .int .i64 p.c.agg, .int .i64 p.c.batch, .int .i64 p.c.window, .int .i64 p.c.giveUp], .int .i64 1] y'
        (RetR (Rets (CaseOk p.c w)) fun u w' => ∃ (p48 : Option Addr) (n49 : Int), u = .tuple #[.pointer p48, .int .i64 n49] ∧ (((n49 != 0) = true → Rets (CaseOk p.c w) (.returned (.tuple #[.pointer none, .pointer none, .slice none 0 0])) w') ∧ ((n49 != 0) = false → Rets (CaseOk p.c w) (.returned (.tuple #[.pointer (some ⟨y.p, 0, none⟩), .pointer p48, .slice a31 l31 c31])) w'))) := by
    intro y' f hof hgy hff
    have hgy' := hg25.trans hgy
    refine (WNew_ok (x := p) (node := 1) (hp.grew hgy') ho).use fun u w46 ⟨hg46, hc⟩ => ?_
    have hW := hG.workers; have hSt := hG.stores
    have hk2 : kindP p.c 1 = 2 := by rw [kindP_of hG (by omega) (by omega), if_neg (by decide), if_pos (by omega)]
    rcases hc with ⟨hb, -⟩ | ⟨-, hb, -⟩ | ⟨-, -, X, hv', hW'⟩
    · rw [hgd] at hb; cases hb
    · exact (hb hk2).elim
    subst hv'
    have hA46 := (a1.grew hgy).grew hg46
    have sz := hgy'.size
    have s1 : ∀ b, y.Foot b → b < w25.heap.size := fun b hb => (a1.foot hb).2
    have s2 : ∀ b, WFoot X b → y'.heap.size ≤ b := fun b hb => (hW'.foot hb).1
    have s3 : ∀ b, Blk a31 b → w25.heap.size ≤ b ∧ b < y'.heap.size := fun b hb => hof.blk hb
    have s4 := hgy.size
    refine ⟨_, _, rfl, fun h => (by cases h), fun _ => ⟨_, rfl, hgy'.trans hg46, .inr ⟨hgd, y, v, X, a31, l31, c31, f, rfl, ⟨hA46, hW'.base sz, fun b h1 h2 => by have := s1 b h1; have := s2 b h2; omega, hgy'.trans hg46⟩, (hof.grew hg46).base hg25.size, fun b hb => ⟨fun h => by have := s1 b h; have := s3 b hb; omega, fun h => by have := s2 b h; have := s3 b hb; omega⟩, ?_, hvl, ?_⟩⟩⟩
    · exact endsE_ok.2 ⟨by have := hof.len; omega, hff⟩
    · rw [hp'.2]; exact e3
  refine ⟨_, _, _, rfl, fun i w' => ∃ (k : Nat) (f : List Int), i = k ∧ k ≤ p.c.parts.toNat ∧ Own w' w25.heap.size 3 (Enc.int .i64) a31 l31 c31 f ∧ (∀ (i : Nat) (e : Int), f[i]? = some e → 0 ≤ e ∧ e ≤ v.len i) ∧ Grew w25 w', fun i _ => 4 - i.toNat, ⟨0, _, rfl, Nat.zero_le _, ho29, fun i e he => ?_, hg29⟩, ?_⟩
  · have := (replicate_get he).1
    have := len_256 a1.fits (i : Int); omega
  rintro n33 w34 ⟨k, f, rfl, hk, hof, hff, hg34⟩
  refine ⟨fun hlt => ⟨fun hlf w35 hg35 => ?_, fun _ => ownW hof hg34 hff⟩, fun _ => ownW hof hg34 hff⟩
  simp only [decide_eq_true_eq] at hlt hlf
  have hw : IntKind.i64.wrap ((k : Int) + 1) = ((k + 1 : Nat) : Int) := by rw [IntKind.wrap_i64]; omega
  have hg35' := hg34.trans hg35
  obtain ⟨d, e, rfl, he, hec⟩ := (hf.grew (hg25.trans hg35')).at0 (k := k) (by omega)
  refine ⟨⟨by omega, by omega⟩, _, i64cell hec, (SLen_ok (a1.grew hg35')).use fun u w38 ⟨hv', hw'⟩ => ?_⟩
  subst hv'; subst hw'
  have h256 := len_256 a1.fits (k : Int)
  refine ⟨_, rfl, ⟨rfl, trivial⟩, fun n42 h42 => ?_⟩
  have e42 : n42 = v.len (k : Int) + 1 := by rw [h42, IntKind.wrap_i64, IntKind.wrap_u64]; omega
  refine ⟨fun h => (by omega), fun _ n43 h43 => ?_⟩
  have hu : 0 ≤ IntKind.u64.wrap e := by rw [IntKind.wrap_u64]; omega
  have b0 := Int.tmod_nonneg n42 hu
  have b1 := Int.tmod_lt_of_pos (IntKind.u64.wrap e) (show (0 : Int) < n42 by omega)
  have e43 : IntKind.i64.wrap n43 = n43 := by rw [IntKind.wrap_i64]; omega
  rw [e43]
  have hof35 := hof.grew hg35
  obtain ⟨g, hag, hroom, hset, hu35⟩ := hof35.set (i := k) (by have := hof35.len; omega) n43
  rw [hag]
  refine ⟨⟨by omega, by omega⟩, by simpa [Enc.int] using hroom, ?_⟩
  rintro w45 rfl
  refine ⟨⟨k + 1, f.set k n43, hw, by omega, by rw [← hag]; simpa [Enc.int] using hset, fun i e' he' => ?_, hg35'.then_own (S := Blk a31) (by simpa [Enc.int] using hu35) fun b hb => (hof35.blk hb).1⟩, by simp only [hw]; omega⟩
  rw [List.getElem?_set] at he'
  split at he'
  · rename_i hki
    split at he'
    · cases he'; subst hki; omega
    · cases he'
  · exact hff i e' he'
end Go.Proofs.YtcpkneemhfnanaaGreat
