/- What plan hands back: Check, Nodes, Kind, the node of a key, tables dealt out. Conditions: none. -/
import Derived.Test.YtcpkneemhfnanaaGreatProg
import Derived.Test.YtcpkneemhfnanaaGreatFoldA
import Derived.Test.YtcpkneemhfnanaaGreatSxPl
namespace Go.Proofs.YtcpkneemhfnanaaGreat
open Go.Sx
set_option maxRecDepth 100000
set_option linter.unusedVariables false
set_option linter.unusedSimpArgs false
def sx64 (p_0 p_1 p_2 : Int) (p_3 : Option Addr) (p_3_n p_3_c : Nat) (p_4 p_5 p_6 p_7 : Int) (R : Ending → World → Prop) (w : World) : Prop :=
 ∀ w1, Grew w w1 → ∀ b2 w3, Ag w1 w3 b2 (.cells #[.int .i64 1, .int .i64 p_0, .int .i64 4, .int .i64 1, .int .i64 p_1, .int .i64 4, .int .i64 1, .int .i64 p_2, .int .i64 4, .int .i64 1, .int .i64 p_5, .int .i64 16, .int .i64 1, .int .i64 p_6, .int .i64 4, .int .i64 8, .int .i64 p_7, .int .i64 64] 179) → ∃ (I4 : Int → World → Prop) (m4 : Int → World → Nat), I4 0 w3 ∧ ∀ n5 w6, I4 n5 w6 → ifB (decide (n5 < ((6 : Nat) : Int))) ((0 ≤ n5 ∧ n5 < (6 : Nat)) ∧ ∃ n7 n8 n9, Ae w6 (Addr.add (⟨b2, 0, none⟩ : Addr) (n5.toNat * 3)) 0 [.int .i64 n7, .int .i64 n8, .int .i64 n9] ∧ ∀ w10, Grew w6 w10 → (0 ≤ (1 : Int) ∧ (1 : Int) < (3 : Nat)) ∧ (0 ≤ (0 : Int) ∧ (0 : Int) < (3 : Nat)) ∧ ifB (decide (n8 < n7)) (R (.returned (.bool false)) w10) ((0 ≤ (1 : Int) ∧ (1 : Int) < (3 : Nat)) ∧ (0 ≤ (2 : Int) ∧ (2 : Int) < (3 : Nat)) ∧ ifB (decide (n8 > n9)) (R (.returned (.bool false)) w10) ((I4 (IntKind.i64.wrap (n5 + 1)) w10 ∧ m4 (IntKind.i64.wrap (n5 + 1)) w10 < m4 n5 w6)))) (Aa Tryz.prog 65 [.int .i64 p_4] w6 (RetR R fun u12 w11 => ∃ b13, u12 = .bool b13 ∧ R (.returned (.bool b13)) w11))
theorem sx64.ok {p_0 p_1 p_2 : Int} {p_3 : Option Addr} {p_3_n p_3_c : Nat} {p_4 p_5 p_6 p_7 : Int} {R : Ending → World → Prop} {w : World} (h : sx64 p_0 p_1 p_2 p_3 p_3_n p_3_c p_4 p_5 p_6 p_7 R w) : Aa Tryz.prog 64 [.agg #[.int .i64 p_0, .int .i64 p_1, .int .i64 p_2, .slice p_3 p_3_n p_3_c, .int .i64 p_4, .int .i64 p_5, .int .i64 p_6, .int .i64 p_7]] w R :=
 okOf { locals := [1, 4], loops := [(2, { slots := [(25, .int .i64)], cells := [] })] } mix Tryz.func64 (by kernel_rfl) (by kernel_rfl) (by kernel_rfl) h
def sx24 (p_0 p_1 p_2 : Int) (p_3 : Option Addr) (p_3_n p_3_c : Nat) (p_4 p_5 p_6 p_7 : Int) (R : Ending → World → Prop) (w : World) : Prop :=
 ∀ w1, Grew w w1 → Aa Tryz.prog 64 [.agg #[.int .i64 p_0, .int .i64 p_1, .int .i64 p_2, .slice p_3 p_3_n p_3_c, .int .i64 p_4, .int .i64 p_5, .int .i64 p_6, .int .i64 p_7]] w1 (RetR R fun u3 w2 => ∃ b4, u3 = .bool b4 ∧ ifB (!b4) (R (.returned (.int .i64 140)) w2) (Aa Tryz.prog 42 [.slice p_3 p_3_n p_3_c] w2 (RetR R fun u7 w6 => ∃ n8, u7 = .int .i64 n8 ∧ R (.returned (.int .i64 n8)) w6)))
theorem sx24.ok {p_0 p_1 p_2 : Int} {p_3 : Option Addr} {p_3_n p_3_c : Nat} {p_4 p_5 p_6 p_7 : Int} {R : Ending → World → Prop} {w : World} (h : sx24 p_0 p_1 p_2 p_3 p_3_n p_3_c p_4 p_5 p_6 p_7 R w) : Aa Tryz.prog 24 [.agg #[.int .i64 p_0, .int .i64 p_1, .int .i64 p_2, .slice p_3 p_3_n p_3_c, .int .i64 p_4, .int .i64 p_5, .int .i64 p_6, .int .i64 p_7]] w R :=
 okOf { locals := [1] } mix Tryz.func24 (by kernel_rfl) (by kernel_rfl) (by kernel_rfl) h
def sx78 (p_0 p_1 p_2 : Int) (p_3 : Option Addr) (p_3_n p_3_c : Nat) (p_4 p_5 p_6 p_7 : Int) (R : Ending → World → Prop) (w : World) : Prop :=
 ∀ w1, Grew w w1 → ∀ n2 : Int, n2 = IntKind.i64.wrap ((1 : Int) + p_2) → R (.returned (.int .i64 n2)) w1
theorem sx78.ok {p_0 p_1 p_2 : Int} {p_3 : Option Addr} {p_3_n p_3_c : Nat} {p_4 p_5 p_6 p_7 : Int} {R : Ending → World → Prop} {w : World} (h : sx78 p_0 p_1 p_2 p_3 p_3_n p_3_c p_4 p_5 p_6 p_7 R w) : Aa Tryz.prog 78 [.agg #[.int .i64 p_0, .int .i64 p_1, .int .i64 p_2, .slice p_3 p_3_n p_3_c, .int .i64 p_4, .int .i64 p_5, .int .i64 p_6, .int .i64 p_7]] w R :=
 okOf { locals := [1], named := [5] } mix Tryz.func78 (by kernel_rfl) (by kernel_rfl) (by kernel_rfl) h
def sx77 (p_0 p_1 p_2 : Int) (p_3 : Option Addr) (p_3_n p_3_c : Nat) (p_4 p_5 p_6 p_7 : Int) (R : Ending → World → Prop) (w : World) : Prop :=
 ∀ w1, Grew w w1 → Aa Tryz.prog 24 [.agg #[.int .i64 p_0, .int .i64 p_1, .int .i64 p_2, .slice p_3 p_3_n p_3_c, .int .i64 p_4, .int .i64 p_5, .int .i64 p_6, .int .i64 p_7]] w1 (RetR R fun u3 w2 => ∃ n4, u3 = .int .i64 n4 ∧ ifB (n4 != 0) (R (.returned (.int .i64 0)) w2) (∀ w6, Grew w2 w6 → Aa Tryz.prog 78 [.agg #[.int .i64 p_0, .int .i64 p_1, .int .i64 p_2, .slice p_3 p_3_n p_3_c, .int .i64 p_4, .int .i64 p_5, .int .i64 p_6, .int .i64 p_7]] w6 (RetR R fun u8 w7 => ∃ n9, u8 = .int .i64 n9 ∧ Ad w6 w7 [] ∧ ∀ n11 : Int, n11 = IntKind.i64.wrap (n9 + p_1) → R (.returned (.int .i64 n11)) w7)))
theorem sx77.ok {p_0 p_1 p_2 : Int} {p_3 : Option Addr} {p_3_n p_3_c : Nat} {p_4 p_5 p_6 p_7 : Int} {R : Ending → World → Prop} {w : World} (h : sx77 p_0 p_1 p_2 p_3 p_3_n p_3_c p_4 p_5 p_6 p_7 R w) : Aa Tryz.prog 77 [.agg #[.int .i64 p_0, .int .i64 p_1, .int .i64 p_2, .slice p_3 p_3_n p_3_c, .int .i64 p_4, .int .i64 p_5, .int .i64 p_6, .int .i64 p_7]] w R :=
 okOf { locals := [1], named := [10], draws := [(3, { order := (ol [0,2,3,1,4,5] .nil), bars := [] })] } mix Tryz.func77 (by kernel_rfl) (by kernel_rfl) (by kernel_rfl) h
def sx38 (p_0 p_1 p_2 : Int) (p_3 : Option Addr) (p_3_n p_3_c : Nat) (p_4 p_5 p_6 p_7 node : Int) (R : Ending → World → Prop) (w : World) : Prop :=
 ∀ w1, Grew w w1 → ifB (decide (node < 0)) (R (.returned (.int .i64 0)) w1) (Aa Tryz.prog 77 [.agg #[.int .i64 p_0, .int .i64 p_1, .int .i64 p_2, .slice p_3 p_3_n p_3_c, .int .i64 p_4, .int .i64 p_5, .int .i64 p_6, .int .i64 p_7]] w1 (RetR R fun u3 w2 => ∃ n4, u3 = .int .i64 n4 ∧ ifB (decide (node ≥ n4)) (R (.returned (.int .i64 0)) w2) (ifB (node == 0) (R (.returned (.int .i64 1)) w2) (Aa Tryz.prog 78 [.agg #[.int .i64 p_0, .int .i64 p_1, .int .i64 p_2, .slice p_3 p_3_n p_3_c, .int .i64 p_4, .int .i64 p_5, .int .i64 p_6, .int .i64 p_7]] w2 (RetR R fun u7 w6 => ∃ n8, u7 = .int .i64 n8 ∧ ifB (decide (node < n8)) (R (.returned (.int .i64 2)) w6) (R (.returned (.int .i64 3)) w6))))))
theorem sx38.ok {p_0 p_1 p_2 : Int} {p_3 : Option Addr} {p_3_n p_3_c : Nat} {p_4 p_5 p_6 p_7 node : Int} {R : Ending → World → Prop} {w : World} (h : sx38 p_0 p_1 p_2 p_3 p_3_n p_3_c p_4 p_5 p_6 p_7 node R w) : Aa Tryz.prog 38 [.agg #[.int .i64 p_0, .int .i64 p_1, .int .i64 p_2, .slice p_3 p_3_n p_3_c, .int .i64 p_4, .int .i64 p_5, .int .i64 p_6, .int .i64 p_7], .int .i64 node] w R :=
 okOf { locals := [2] } mix Tryz.func38 (by kernel_rfl) (by kernel_rfl) (by kernel_rfl) h
def sx75 (p_0 p_1 p_2 : Int) (p_3 : Option Addr) (p_3_n p_3_c : Nat) (p_4 p_5 p_6 p_7 key : Int) (R : Ending → World → Prop) (w : World) : Prop :=
 ∀ w1, Grew w w1 → ∀ w2, Grew w1 w2 → ((Aa Tryz.prog 78 [.agg #[.int .i64 p_0, .int .i64 p_1, .int .i64 p_2, .slice p_3 p_3_n p_3_c, .int .i64 p_4, .int .i64 p_5, .int .i64 p_6, .int .i64 p_7]] w2 (RetR R fun u4 w3 => ∃ n5, u4 = .int .i64 n5 ∧ Ad w2 w3 [] ∧ (((IntKind.u64.wrap p_1) = 0 → R (.panicked (Bq Tryz.prog)) w3) ∧ ((IntKind.u64.wrap p_1) ≠ 0 → ∀ n7 : Int, n7 = Int.tmod key (IntKind.u64.wrap p_1) → Ad w3 w3 [] ∧ ∀ n8 : Int, n8 = IntKind.i64.wrap (n5 + (IntKind.i64.wrap n7)) → R (.returned (.int .i64 n8)) w3)))) ∧ ((((IntKind.u64.wrap p_1) = 0 → R (.panicked (Bq Tryz.prog)) w2) ∧ ((IntKind.u64.wrap p_1) ≠ 0 → ∀ n9 : Int, n9 = Int.tmod key (IntKind.u64.wrap p_1) → Ad w2 w2 [] ∧ Aa Tryz.prog 78 [.agg #[.int .i64 p_0, .int .i64 p_1, .int .i64 p_2, .slice p_3 p_3_n p_3_c, .int .i64 p_4, .int .i64 p_5, .int .i64 p_6, .int .i64 p_7]] w2 (RetR R fun u11 w10 => ∃ n12, u11 = .int .i64 n12 ∧ Ad w2 w10 [] ∧ ∀ n14 : Int, n14 = IntKind.i64.wrap (n12 + (IntKind.i64.wrap n9)) → R (.returned (.int .i64 n14)) w10)))))
theorem sx75.ok {p_0 p_1 p_2 : Int} {p_3 : Option Addr} {p_3_n p_3_c : Nat} {p_4 p_5 p_6 p_7 key : Int} {R : Ending → World → Prop} {w : World} (h : sx75 p_0 p_1 p_2 p_3 p_3_n p_3_c p_4 p_5 p_6 p_7 key R w) : Aa Tryz.prog 75 [.agg #[.int .i64 p_0, .int .i64 p_1, .int .i64 p_2, .slice p_3 p_3_n p_3_c, .int .i64 p_4, .int .i64 p_5, .int .i64 p_6, .int .i64 p_7], .int .u64 key] w R :=
 okOf { locals := [2], named := [11, 13], draws := [(1, { order := (ol [0,2,3,4,5] (.alt (ol [1,6,7,8,9] .nil) (ol [6,7,1,8,9] .nil))), bars := [] })] } mix Tryz.func75 (by kernel_rfl) (by kernel_rfl) (by kernel_rfl) h
def sx88 (p_0 p_1 p_2 : Int) (p_3 : Option Addr) (p_3_n p_3_c : Nat) (p_4 p_5 p_6 p_7 : Int) (table : Option Addr) (table_n table_c : Nat) (R : Ending → World → Prop) (w : World) : Prop :=
 ∀ w1, Grew w w1 → Aa Tryz.prog 24 [.agg #[.int .i64 p_0, .int .i64 p_1, .int .i64 p_2, .slice p_3 p_3_n p_3_c, .int .i64 p_4, .int .i64 p_5, .int .i64 p_6, .int .i64 p_7]] w1 (RetR R fun u3 w2 => ∃ n4, u3 = .int .i64 n4 ∧ ifB (n4 != 0) (R (.returned (.slice none 0 0)) w2) (SemW Tryz.prog (Instr.makeSlice 142 (.int .i64 p_1) (.int .i64 p_1)) (fun u7 w6 => ∃ a8 l8 c8, u7 = .slice a8 l8 c8 ∧ ∃ (I9 : Int → World → Prop) (m9 : Int → World → Nat), I9 0 w6 ∧ ∀ n10 w11, I9 n10 w11 → ifB (decide (n10 < ((table_n : Nat) : Int))) (Ab table (fun d12 => (0 ≤ n10 ∧ n10 < (table_n : Nat)) ∧ ∃ n13 b14 n15, Ae w11 (Addr.add d12 (n10.toNat * 3)) 0 [.int .u64 n13, .bool b14, .int .u64 n15] ∧ ∀ w16, Grew w11 w16 → ∀ w17, Grew w16 w17 → Aa Tryz.prog 75 [.agg #[.int .i64 p_0, .int .i64 p_1, .int .i64 p_2, .slice p_3 p_3_n p_3_c, .int .i64 p_4, .int .i64 p_5, .int .i64 p_6, .int .i64 p_7], .int .u64 n13] w17 (RetR R fun u19 w18 => ∃ n20, u19 = .int .i64 n20 ∧ Ad w17 w18 [] ∧ Aa Tryz.prog 78 [.agg #[.int .i64 p_0, .int .i64 p_1, .int .i64 p_2, .slice p_3 p_3_n p_3_c, .int .i64 p_4, .int .i64 p_5, .int .i64 p_6, .int .i64 p_7]] w18 (RetR R fun u23 w22 => ∃ n24, u23 = .int .i64 n24 ∧ ∀ n26 : Int, n26 = IntKind.i64.wrap (n20 - n24) → ∀ w27, Grew w22 w27 → Ab a8 (fun d28 => (0 ≤ n26 ∧ n26 < (l8 : Nat)) ∧ ∃ a29 l29 c29, w27.cell? (Addr.add d28 (n26.toNat * 1)) = some (.slice a29 l29 c29) ∧ ∀ b30 w31, Ag w27 w31 b30 (.cells #[.int .u64 n13, .bool b14, .int .u64 n15] 83) → Ad w27 w31 [(Addr.add d28 (n26.toNat * 1))] ∧ SemW Tryz.prog (Builtin.append_ #[46, 46] 46 #[.slice a29 l29 c29, .slice (some ⟨b30, 0, none⟩) 1 1]) (fun u33 w32 => ∃ a34 l34 c34, u33 = .slice a34 l34 c34 ∧ Ab a8 (fun d35 => (0 ≤ n26 ∧ n26 < (l8 : Nat)) ∧ Af w32 (Addr.add d35 (n26.toNat * 1)) 0 [.slice a34 l34 c34] ∧ ∀ w36, w36 = setCells w32 (Addr.add d35 (n26.toNat * 1)) 0 [.slice a34 l34 c34] → (I9 (IntKind.i64.wrap (n10 + 1)) w36 ∧ m9 (IntKind.i64.wrap (n10 + 1)) w36 < m9 n10 w11))) w31))))) (R (.returned (.slice a8 l8 c8)) w11)) w2))
theorem sx88.ok {p_0 p_1 p_2 : Int} {p_3 : Option Addr} {p_3_n p_3_c : Nat} {p_4 p_5 p_6 p_7 : Int} {table : Option Addr} {table_n table_c : Nat} {R : Ending → World → Prop} {w : World} (h : sx88 p_0 p_1 p_2 p_3 p_3_n p_3_c p_4 p_5 p_6 p_7 table table_n table_c R w) : Aa Tryz.prog 88 [.agg #[.int .i64 p_0, .int .i64 p_1, .int .i64 p_2, .slice p_3 p_3_n p_3_c, .int .i64 p_4, .int .i64 p_5, .int .i64 p_6, .int .i64 p_7], .slice table table_n table_c] w R :=
 okOf { locals := [2, 7], sem := [14, 36], named := [27], draws := [(7, { order := (ol [0,1,2,4,3,5,6,7] .nil), bars := [5] }), (8, { order := (ol [0,1,2,3,4,5,6,7,8,9,10] .nil), bars := [8, 10] })], loops := [(5, { slots := [(17, .int .i64)], cells := [] })] } mix Tryz.func88 (by kernel_rfl) (by kernel_rfl) (by kernel_rfl) h
theorem Adp {x : Plan} {w : World} : Aa Tryz.prog 64 [x.val] w (Rets fun v w' => v = .bool (Ig x.c) ∧ Grew w w') := by
 obtain ⟨⟨p1, p2, p3, ops, p4, p5, p6, p7⟩, o⟩ := x
 refine sx64.ok ?_
 unfold sx64
 intro w1 hg1 b2 w3 hal
 simp only [Plan.val]
 have hrow : ∀ {y : World}, Grew w3 y → ∀ i v, ([.int .i64 1, .int .i64 p1, .int .i64 4, .int .i64 1, .int .i64 p2, .int .i64 4, .int .i64 1, .int .i64 p3, .int .i64 4, .int .i64 1, .int .i64 p5, .int .i64 16, .int .i64 1, .int .i64 p6, .int .i64 4, .int .i64 8, .int .i64 p7, .int .i64 64] : List Value)[i]? = some v → y.cell? ⟨b2, i, none⟩ = some v := fun hg i v hv => hg.cell (hal.cell hv)
 let T : List (Int × Int × Int) := [(1, p1, 4), (1, p2, 4), (1, p3, 4), (1, p5, 16), (1, p6, 4), (8, p7, 64)]
 have hT : ∀ {y : World}, Grew w3 y → ∀ (i : Nat) (t : Int × Int × Int), T[i]? = some t → Ae y ⟨b2, i * 3, none⟩ 0 [.int .i64 t.1, .int .i64 t.2.1, .int .i64 t.2.2] := by
  intro y hg i t ht
  have h := hrow hg
  have hi : i < 6 := (List.getElem?_eq_some_iff.1 ht).1
  refine Ga fun j v hj => ?_
  rw [Au]
  apply h
  match i, hi, ht, j, hj with
  | 0, _, ht, 0, hj | 0, _, ht, 1, hj | 0, _, ht, 2, hj | 1, _, ht, 0, hj | 1, _, ht, 1, hj | 1, _, ht, 2, hj | 2, _, ht, 0, hj | 2, _, ht, 1, hj | 2, _, ht, 2, hj | 3, _, ht, 0, hj | 3, _, ht, 1, hj | 3, _, ht, 2, hj | 4, _, ht, 0, hj | 4, _, ht, 1, hj | 4, _, ht, 2, hj | 5, _, ht, 0, hj | 5, _, ht, 1, hj | 5, _, ht, 2, hj => cases ht; exact hj
 refine ⟨fun i w' => ∃ k : Nat, i = k ∧ k ≤ 6 ∧ (∀ (j : Nat) t, j < k → T[j]? = some t → t.1 ≤ t.2.1 ∧ t.2.1 ≤ t.2.2) ∧ Grew w3 w', fun i _ => 6 - i.toNat, ⟨0, rfl, by omega, fun j t h => by omega, Grew.refl _⟩, ?_⟩
 rintro n5 w6 ⟨k, rfl, hk, hall, hg6⟩
 have hgw := hg1.trans (hal.grew.trans hg6)
 have full : (∀ (j : Nat) t, j < 6 → T[j]? = some t → t.1 ≤ t.2.1 ∧ t.2.1 ≤ t.2.2) ↔ ((1 ≤ p1 ∧ p1 ≤ 4) ∧ (1 ≤ p2 ∧ p2 ≤ 4) ∧ (1 ≤ p3 ∧ p3 ≤ 4) ∧ (1 ≤ p5 ∧ p5 ≤ 16) ∧ (1 ≤ p6 ∧ p6 ≤ 4) ∧ (8 ≤ p7 ∧ p7 ≤ 64)) := by
  constructor
  ·intro h
   exact ⟨h 0 _ (by decide) rfl, h 1 _ (by decide) rfl, h 2 _ (by decide) rfl, h 3 _ (by decide) rfl, h 4 _ (by decide) rfl, h 5 _ (by decide) rfl⟩
  ·rintro ⟨a, b, c, d, e, f⟩ j t hj ht
   match j, hj, ht with
   | 0, _, ht => cases ht; exact a
   | 1, _, ht => cases ht; exact b
   | 2, _, ht => cases ht; exact c
   | 3, _, ht => cases ht; exact d
   | 4, _, ht => cases ht; exact e
   | 5, _, ht => cases ht; exact f
 have no : ∀ {y : World} (t : Int × Int × Int), T[k]? = some t → ¬ (t.1 ≤ t.2.1 ∧ t.2.1 ≤ t.2.2) → Grew w y → Rets (fun v w' => v = .bool (Ig ⟨p1, p2, p3, ops, p4, p5, p6, p7⟩) ∧ Grew w w') (.returned (.bool false)) y := by
  intro y t ht hn hg
  refine ⟨_, rfl, ?_, hg⟩
  have : ¬ ((1 ≤ p1 ∧ p1 ≤ 4) ∧ (1 ≤ p2 ∧ p2 ≤ 4) ∧ (1 ≤ p3 ∧ p3 ≤ 4) ∧ (1 ≤ p5 ∧ p5 ≤ 16) ∧ (1 ≤ p6 ∧ p6 ≤ 4) ∧ (8 ≤ p7 ∧ p7 ≤ 64)) := fun h => hn (full.2 h k t (List.getElem?_eq_some_iff.1 ht).1 ht)
  unfold Ig
  rw [decide_eq_false this, Bool.false_and]
 refine ⟨fun hlt => ?_, fun hge => ?_⟩
 ·simp only [decide_eq_true_eq] at hlt
  have hk6 : k < 6 := by omega
  obtain ⟨t, ht⟩ : ∃ t, T[k]? = some t := ⟨_, List.getElem?_eq_getElem (show k < T.length from hk6)⟩
  have hc := hT hg6 k t ht
  rw [Au]
  have hw : IntKind.i64.wrap ((k : Int) + 1) = ((k + 1 : Nat) : Int) := by rw [IntKind.wrap_i64]; omega
  refine ⟨⟨by omega, by omega⟩, _, _, _, by simpa using hc, fun w10 hg10 => ⟨⟨by omega, by omega⟩, ⟨by omega, by omega⟩, fun h1 => ?_, fun h1 => ⟨⟨by omega, by omega⟩, ⟨by omega, by omega⟩, fun h2 => ?_, fun h2 => ?_⟩⟩⟩
  ·simp only [decide_eq_true_eq] at h1
   exact no t ht (by omega) (hgw.trans hg10)
  ·simp only [decide_eq_true_eq] at h2
   exact no t ht (by omega) (hgw.trans hg10)
  ·simp only [decide_eq_false_iff_not] at h1 h2
   refine ⟨⟨k + 1, hw, by omega, fun j s hj hs => ?_, hg6.trans hg10⟩, by simp only [hw]; omega⟩
   by_cases hjk : j = k
   ·subst hjk; rw [ht] at hs; cases hs; omega
   ·exact hall j s (by omega) hs
 ·simp only [decide_eq_false_iff_not] at hge
  have hk6 : k = 6 := by omega
  subst hk6
  refine O0.use fun v w11 ⟨hv, hw⟩ => ?_
  subst hv; subst hw
  refine ⟨_, rfl, _, rfl, ?_, hgw⟩
  unfold Ig
  have hfu := full.1 hall
  simp only [hfu, and_self, decide_true, Bool.true_and]
theorem Mj {x : Plan} {w : World} (hx : x.At w) : Aa Tryz.prog 24 [x.val] w (Rets fun v w' => v = .int .i64 (Gj x.c) ∧ Grew w w') := by
 refine sx24.ok ?_
 unfold sx24
 intro w1 hg1
 refine (Adp (x := x)).use fun v w2 ⟨hv, hg2⟩ => ?_
 subst hv
 refine ⟨_, rfl, fun h => ?_, fun h => (Ll (hx.grew (hg1.trans hg2))).use fun v w6 ⟨hv, hg6⟩ => ?_⟩
 ·simp only [Bool.not_eq_true'] at h
  exact ⟨_, rfl, by unfold Gj; rw [h]; rfl, hg1.trans hg2⟩
 ·subst hv
  simp only [Bool.not_eq_false'] at h
  exact ⟨_, rfl, _, rfl, by unfold Gj; rw [if_pos h], hg1.trans (hg2.trans hg6)⟩
theorem D5 {x : Plan} {w : World} : Aa Tryz.prog 78 [x.val] w (Rets fun v w' => v = .int .i64 (IntKind.i64.wrap (1 + x.c.workers)) ∧ Grew w w') := by
 refine sx78.ok ?_
 unfold sx78
 intro w1 hg1 n2 h2
 exact ⟨_, rfl, by rw [h2], hg1⟩
theorem Qy {x : Plan} {w : World} (hx : x.At w) : Aa Tryz.prog 77 [x.val] w (Rets fun v w' => v = .int .i64 (E7 x.c) ∧ Grew w w') := by
 refine sx77.ok ?_
 unfold sx77
 intro w1 hg1
 refine (Mj (hx.grew hg1)).use fun v w2 ⟨hv, hg2⟩ => ?_
 subst hv
 refine ⟨_, rfl, fun h => ?_, fun h w6 hg6 => (D5 (x := x)).use fun v w7 ⟨hv, hg7⟩ => ?_⟩
 ·have hn : ¬ C0 x.c = true := fun hg => by rw [Ci.2 hg] at h; simp at h
  exact ⟨_, rfl, by unfold E7; rw [if_neg hn], hg1.trans hg2⟩
 ·subst hv
  have hgd : C0 x.c = true := Ci.1 (by simpa using h)
  have hG := C1.1 hgd
  have := hG.workers; have := hG.stores
  refine ⟨_, rfl, by simp [Ad], fun n11 h11 => ⟨_, rfl, ?_, hg1.trans (hg2.trans (hg6.trans hg7))⟩⟩
  unfold E7
  rw [if_pos hgd, h11, IntKind.wrap_i64, IntKind.wrap_i64]
  congr 1; omega
theorem Po {x : Plan} {n : Int} {w : World} (hx : x.At w) : Aa Tryz.prog 38 [x.val, .int .i64 n] w (Rets fun v w' => v = .int .i64 (Ax x.c n) ∧ Grew w w') := by
 refine sx38.ok ?_
 unfold sx38
 intro w1 hg1
 have fin : ∀ {y : World} (k : Int), Ax x.c n = k → Grew w y → Rets (fun v w' => v = .int .i64 (Ax x.c n) ∧ Grew w w') (.returned (.int .i64 k)) y := fun k h hg => ⟨_, rfl, by rw [h], hg⟩
 refine ⟨fun h => ?_, fun h => (Qy (hx.grew hg1)).use fun v w2 ⟨hv, hg2⟩ => ?_⟩
 ·simp only [decide_eq_true_eq] at h
  exact fin _ (by unfold Ax; rw [if_pos (.inl h)]) hg1
 ·subst hv
  simp only [decide_eq_false_iff_not] at h
  have hg2 := hg1.trans hg2
  refine ⟨_, rfl, fun h1 => ?_, fun h1 => ⟨fun h2 => ?_, fun h2 => (D5 (x := x)).use fun v w6 ⟨hv, hg6⟩ => ?_⟩⟩
  ·simp only [decide_eq_true_eq] at h1
   exact fin _ (by unfold Ax; rw [if_pos (.inr h1)]) hg2
  ·simp only [decide_eq_false_iff_not] at h1
   simp only [beq_iff_eq] at h2
   exact fin _ (by unfold Ax; rw [if_neg (by omega), if_pos h2]) hg2
  ·subst hv
   simp only [decide_eq_false_iff_not] at h1
   simp only [beq_eq_false_iff_ne, ne_eq] at h2
   have hgd : C0 x.c = true := by
    cases hc : C0 x.c with
    | true => rfl
    | false => unfold E7 at h1; rw [hc] at h1; simp at h1; omega
   have hG := C1.1 hgd
   have := hG.workers
   have hw : IntKind.i64.wrap (1 + x.c.workers) = 1 + x.c.workers := by rw [IntKind.wrap_i64]; omega
   rw [hw]
   refine ⟨_, rfl, fun h3 => ?_, fun h3 => ?_⟩
   ·simp only [decide_eq_true_eq] at h3
    exact fin _ (by unfold Ax; rw [if_neg (by omega), if_neg h2, if_pos h3]) (hg2.trans hg6)
   ·simp only [decide_eq_false_iff_not] at h3
    exact fin _ (by unfold Ax; rw [if_neg (by omega), if_neg h2, if_neg h3]) (hg2.trans hg6)
theorem Sa {key s : Int} (hk : 0 ≤ key ∧ key < u64m) (hs : 1 ≤ s ∧ s ≤ 4) : IntKind.u64.wrap s = s ∧ Int.tmod key s = key % s ∧ 0 ≤ key % s ∧ key % s < s := by
 refine ⟨by rw [IntKind.wrap_u64]; omega, Int.tmod_eq_emod_of_nonneg hk.1, Int.emod_nonneg _ (by omega), Int.emod_lt_of_pos _ (by omega)⟩
theorem Vg {x : Plan} {key : Int} {w : World} (hG : Nb x.c) (hk : 0 ≤ key ∧ key < u64m) : Aa Tryz.prog 75 [x.val, .int .u64 key] w (Rets fun v w' => v = .int .i64 (R8 x.c key) ∧ Grew w w') := by
 refine sx75.ok ?_
 unfold sx75
 intro w1 hg1 w2 hg2
 obtain ⟨e1, e2, e3, e4⟩ := Sa hk hG.stores
 have := hG.workers; have := hG.stores
 have nb : ∀ {x y : World}, Ad x y [] := by intro x y; simp [Ad]
 rw [e1, e2]
 have hw : IntKind.i64.wrap (1 + x.c.workers) = 1 + x.c.workers := by rw [IntKind.wrap_i64]; omega
 have hm : IntKind.i64.wrap (key % x.c.stores) = key % x.c.stores := by rw [IntKind.wrap_i64]; omega
 have hs : IntKind.i64.wrap (1 + x.c.workers + key % x.c.stores) = R8 x.c key := by unfold R8; rw [IntKind.wrap_i64]; omega
 constructor
 ·refine (D5 (x := x)).use fun v w3 ⟨hv, hg3⟩ => ?_
  subst hv
  refine ⟨_, rfl, nb, fun h => (by omega), fun _ => ?_⟩
  rintro n7 rfl
  refine ⟨nb, fun n8 h8 => ⟨_, rfl, ?_, hg1.trans (hg2.trans hg3)⟩⟩
  rw [h8, hm, hw, hs]
 ·refine ⟨fun h => (by omega), fun _ => ?_⟩
  rintro n9 rfl
  refine ⟨nb, (D5 (x := x)).use fun v w3 ⟨hv, hg3⟩ => ?_⟩
  subst hv
  refine ⟨_, rfl, nb, fun n8 h8 => ⟨_, rfl, ?_, hg1.trans (hg2.trans hg3)⟩⟩
  rw [h8, hm, hw, hs]
def Afb (w : World) (ls : List (List Am)) (u : Value) (w' : World) : Prop := ∃ (a : Option Addr) (n c : Nat) (hs : List Sl3), u = .slice a n c ∧ Own w' w.heap.size 46 Enc.slice a n c hs ∧ Dq 83 w' w.heap.size hs ls ∧ Grew w w'
theorem Afc : (Tryz.prog.info? 46).map (fun i => (i.zero, i.size, i.bytes)) = some (some (.slice none 0 0), Enc.slice.sz, 24) := by kernel_rfl
set_option maxHeartbeats 1000000 in
theorem Adq {x : Plan} {a : Option Addr} {n c : Nat} {l : List Am} {w : World} (hx : x.At w) (hG : Nb x.c) (hr : Reads w Enc.pair (a, n, c) l) (hf : ∀ y ∈ l, y.Fits) (hl : l.length ≤ 2097152) :
  Aa Tryz.prog 88 [x.val, .slice a n c] w (Rets (Afb w (Gx x.c.stores l))) := by
 refine sx88.ok ?_
 unfold sx88
 have hn : n = l.length := hr.2.1
 subst hn
 have nb : ∀ {x y : World}, Ad x y [] := by intro x y; simp [Ad]
 have hgd : C0 x.c = true := C1.2 hG
 have hS := hG.stores; have hW := hG.workers
 intro w1 hg1
 refine (Mj (hx.grew hg1)).use fun v w2 ⟨hv, hg2⟩ => ?_
 subst hv
 have hg2 := hg1.trans hg2
 rw [Ci.2 hgd]
 refine ⟨_, rfl, fun h => (by simp at h), fun _ => ?_⟩
 have hsn : x.c.stores = (x.c.stores.toNat : Int) := by omega
 have mk : SemW Tryz.prog (Instr.makeSlice 142 (.int .i64 (x.c.stores.toNat : Int)) (.int .i64 (x.c.stores.toNat : Int))) = SemW Tryz.prog (Instr.makeSlice 142 (.int .i64 x.c.stores) (.int .i64 x.c.stores)) := by rw [← hsn]
 rw [← mk]
 refine Hf (e := 46) (E := Enc.slice) (x := (none, 0, 0)) (z := .slice none 0 0) (bytes := 24) (by kernel_rfl) Afc rfl (by omega) (by simp only [maxLen]; omega) ?_
 rintro v w6 ⟨a8, l8, c8, rfl, ho6, hg6⟩
 have hg6' := hg2.trans hg6
 have hl8 : l8 = x.c.stores.toNat := by rw [ho6.len]; simp
 have z0 : ∀ (j : Nat) (h : Sl3), (List.replicate x.c.stores.toNat ((none, 0, 0) : Sl3))[j]? = some h → h = (none, 0, 0) := fun j h hj => by rw [List.getElem?_replicate] at hj; split at hj <;> cases hj; rfl
 refine ⟨_, _, _, rfl, fun i w' => ∃ (k : Nat) (hs : List Sl3), i = k ∧ k ≤ l.length ∧ Own w' w2.heap.size 46 Enc.slice a8 l8 c8 hs ∧ Dq 83 w' w2.heap.size hs (Gx x.c.stores (l.take k)) ∧ Grew w2 w', fun i _ => l.length - i.toNat, ⟨0, _, rfl, Nat.zero_le _, ho6, ⟨by rw [E8]; simp, fun i h t h1 h2 => ?_, fun i j h k _ h1 _ b hb => ?_⟩, hg6⟩, ?_⟩
 ·rw [z0 i h h1]
  have : t = [] := by
   have hi := (List.getElem?_eq_some_iff.1 h1).1
   rw [List.length_replicate] at hi
   rw [List.take_zero, Ho hi] at h2
   exact (Option.some.inj h2).symm
  subst this
  exact Own.nil _ _ _ _
 ·rw [z0 i h h1] at hb; exact (Blk.none hb).elim
 rintro n10 w11 ⟨k, hs, rfl, hk, ho11, hD11, hg11⟩
 have hgw := hg2.trans hg11
 refine ⟨fun hlt => ?_, fun hge => ?_⟩
 ·simp only [decide_eq_true_eq] at hlt
  obtain ⟨d, y, rfl, hy, hyc⟩ := (hr.grew hgw).at0 (k := k) (by omega)
  have hyf := hf y (List.mem_of_getElem? hy)
  obtain ⟨e1, e2, e3, e4⟩ := Sa hyf.1 hS
  have hcell : Ae w11 (Addr.add d (((k : Nat) : Int).toNat * 3)) 0 [.int .u64 y.key, .bool y.has, .int .u64 y.bits] := hyc
  have hw : IntKind.i64.wrap ((k : Int) + 1) = ((k + 1 : Nat) : Int) := by rw [IntKind.wrap_i64]; omega
  rw [Ab]
  refine ⟨⟨by omega, by omega⟩, _, _, _, hcell, fun w16 hg16 w17 hg17 => (Vg hG hyf.1).use fun v w18 ⟨hv, hg18⟩ => ?_⟩
  subst hv
  refine ⟨_, rfl, nb, (D5 (x := x)).use fun v w22 ⟨hv, hg22⟩ => ?_⟩
  subst hv
  refine ⟨_, rfl, fun n26 h26 w27 hg27 => ?_⟩
  have hgk := hg16.trans (hg17.trans (hg18.trans (hg22.trans hg27)))
  have hi : n26 = (((y.key % x.c.stores).toNat : Nat) : Int) := by
   rw [h26]; unfold R8
   rw [IntKind.wrap_i64, IntKind.wrap_i64]; omega
  generalize hq : (y.key % x.c.stores).toNat = q at hi
  have hqs : q < x.c.stores.toNat := by omega
  subst hi
  have ho27 := ho11.grew hgk
  have hD27 := hD11.grew hgk
  have hhl : hs.length = l8 := ho27.len.symm
  obtain ⟨g, h, rfl, hh, hhc⟩ := ho27.reads.at0 (k := q) (by omega)
  have hhcell : w27.cell? (Addr.add g (((q : Nat) : Int).toNat * 1)) = some (.slice h.1 h.2.1 h.2.2) := by
   have := Ai hhc 0 _ rfl
   simpa [Enc.slice, Addr.add_zero'] using this
  rw [Ab]
  refine ⟨⟨by omega, by omega⟩, _, _, _, hhcell, fun b30 w31 hal31 => ⟨⟨hal31.grew.block _ (World.block_lt_of_cell? w27 _ hhcell), trivial⟩, ?_⟩⟩
  have hown := hD27.own q h _ hh (Ho hqs)
  have hdl := Mg x.c.stores (l.take k) q
  have htk : (l.take k).length = k := by rw [List.length_take]; omega
  have hB : w2.heap.size ≤ w27.heap.size := (hg11.trans hgk).size
  refine Bc (l2 := [y]) R7 hown hal31 rfl rfl hB (by simp only [maxLen, List.length_singleton]; omega) (by simp only [List.length_singleton]; omega) ?_
  rintro v33 w32 ⟨a34, l34, c34, rfl, ho34, hu34, hb34⟩
  have hbh : ∀ b, Blk h.1 b → w2.heap.size ≤ b ∧ b < w27.heap.size := fun b hb => hown.blk hb
  have ho32 := ho27.upd hu34 fun b hb hb' => own_ne hown ho27 (by decide) b hb' hb
  obtain ⟨g', hg', hroom, hset, huset⟩ := ho32.set (i := q) (by omega) (a34, l34, c34)
  cases hg'
  refine ⟨_, _, _, rfl, ?_⟩
  rw [Ab]
  refine ⟨⟨by omega, by omega⟩, by simpa [Enc.slice] using hroom, ?_⟩
  rintro w36 rfl
  have hset' : Own (setCells w32 (Addr.add g (((q : Nat) : Int).toNat * 1)) 0 [.slice a34 l34 c34]) w2.heap.size 46 Enc.slice (some g) l8 c8 (hs.set q (a34, l34, c34)) := by simpa [Enc.slice] using hset
  have huset' : Upd (Blk (some g)) w32 (setCells w32 (Addr.add g (((q : Nat) : Int).toNat * 1)) 0 [.slice a34 l34 c34]) := by simpa [Enc.slice] using huset
  generalize setCells w32 (Addr.add g (((q : Nat) : Int).toNat * 1)) 0 [.slice a34 l34 c34] = w36 at hset' huset'
  have hbg : ∀ b, Blk (some g) b → w2.heap.size ≤ b ∧ b < w27.heap.size := fun b hb => ho27.blk hb
  have hg36 : Grew w2 w36 := ((hg11.trans hgk).then_own hu34 fun b hb => (hbh b hb).1).then_own huset' fun b hb => (hbg b hb).1
  refine ⟨⟨k + 1, hs.set q (a34, l34, c34), hw, by omega, hset', ⟨by rw [E8, List.length_set, hhl, hl8], fun i z t h1 h2 => ?_, fun i j z z' hne h1 h2 b hb hb' => ?_⟩, hg36⟩, by simp only [hw]; omega⟩
  ·have hil : i < x.c.stores.toNat := by have := (List.getElem?_eq_some_iff.1 h1).1; rw [List.length_set] at this; omega
   rw [Ak hy, Ho hil, Pg] at h2
   rw [List.getElem?_set] at h1
   by_cases hqi : q = i
   ·subst hqi
    rw [if_pos rfl, if_pos (by omega)] at h1
    cases h1
    rw [if_pos (by omega)] at h2
    cases h2
    exact ho34.upd huset' fun b hb hb' => own_ne ho34 ho32 (by decide) b hb hb'
   ·rw [if_neg hqi] at h1
    rw [if_neg (by omega)] at h2
    cases h2
    have hz := hD27.own i z _ h1 (Ho hil)
    exact (hz.upd hu34 fun b hb hb' => hD27.apart i q z h (fun e => hqi e.symm) h1 hh b hb hb').upd huset' fun b hb hb' => own_ne (hz.upd hu34 fun b hb hb' => hD27.apart i q z h (fun e => hqi e.symm) h1 hh b hb hb') ho32 (by decide) b hb hb'
  ·rw [List.getElem?_set] at h1 h2
   by_cases hqi : q = i
   ·subst hqi
    rw [if_pos rfl, if_pos (by omega)] at h1
    cases h1
    rw [if_neg hne] at h2
    rcases hb34 b hb with h | h
    ·exact hD27.apart q j _ _ hne hh h2 b h hb'
    ·have := (hD27.feet ⟨z', List.mem_of_getElem? h2, hb'⟩).2; omega
   ·rw [if_neg hqi] at h1
    by_cases hqj : q = j
    ·subst hqj
     rw [if_pos rfl, if_pos (by omega)] at h2
     cases h2
     rcases hb34 b hb' with h | h
     ·exact hD27.apart i q _ _ hne h1 hh b hb h
     ·have := (hD27.feet ⟨z, List.mem_of_getElem? h1, hb⟩).2; omega
    ·rw [if_neg hqj] at h2
     exact hD27.apart i j _ _ hne h1 h2 b hb hb'
 ·simp only [decide_eq_false_iff_not] at hge
  rw [List.take_of_length_le (by omega)] at hD11
  exact ⟨_, rfl, _, _, _, hs, rfl, ho11.base hg2.size, hD11.base hg2.size, hgw⟩
end Go.Proofs.YtcpkneemhfnanaaGreat
