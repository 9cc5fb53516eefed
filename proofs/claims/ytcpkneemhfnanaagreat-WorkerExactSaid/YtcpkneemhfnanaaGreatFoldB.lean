/- What a batch hands back, in the reference. Conditions: none. -/
import Derived.Test.YtcpkneemhfnanaaGreatProg
import Derived.Test.YtcpkneemhfnanaaGreatNetB
import Derived.Test.YtcpkneemhfnanaaGreatRefA
import Derived.Test.YtcpkneemhfnanaaGreatRefO
import Derived.Test.YtcpkneemhfnanaaGreatSxWo
namespace Go.Proofs.YtcpkneemhfnanaaGreat
open Go.Sx
set_option maxRecDepth 100000
set_option linter.unusedVariables false
set_option linter.unusedSimpArgs false
def sx141 (t : Option Addr) (t_n t_c : Nat) (key : Int) (R : Ending → World → Prop) (w : World) : Prop :=
 ∃ (I1 : Int → World → Prop) (m1 : Int → World → Nat), I1 0 w ∧ ∀ n2 w3, I1 n2 w3 → ifB (decide (n2 < ((t_n : Nat) : Int))) (Ab t (fun d4 => (0 ≤ n2 ∧ n2 < (t_n : Nat)) ∧ ∃ n5, w3.cell? (Addr.add d4 (n2.toNat * 3)) = some (.int .u64 n5) ∧ ifB (decide (n5 < key)) ((I1 (IntKind.i64.wrap (n2 + 1)) w3 ∧ m1 (IntKind.i64.wrap (n2 + 1)) w3 < m1 n2 w3)) (R (.returned (.int .i64 n2)) w3))) (R (.returned (.int .i64 n2)) w3)
theorem sx141.ok {t : Option Addr} {t_n t_c : Nat} {key : Int} {R : Ending → World → Prop} {w : World} (h : sx141 t t_n t_c key R w) : Aa Tryz.prog 141 [.slice t t_n t_c, .int .u64 key] w R :=
 okOf { loops := [(2, { slots := [(5, .int .i64)], cells := [] })] } mix Tryz.func141 (by kernel_rfl) (by kernel_rfl) (by kernel_rfl) h
def sx126 (d : Int) (i : Option Addr) (i_n i_c : Nat) (p2 : Int) (p3_0 : Bool) (p3_1 : Int) (R : Ending → World → Prop) (w : World) : Prop :=
  ∀ w1, Grew w w1 → Aa Tryz.prog 141 [.slice i i_n i_c, .int .u64 p2] w1 (RetR R fun u3 w2 => ∃ n4, u3 = .int .i64 n4 ∧ ifB (decide (n4 < ((i_n : Nat) : Int))) (Ab i (fun d6 => (0 ≤ n4 ∧ n4 < (i_n : Nat)) ∧ ∃ n7, w2.cell? (Addr.add d6 (n4.toNat * 3)) = some (.int .u64 n7) ∧ ifB (n7 == p2) (∀ w8, Grew w2 w8 → Ab i (fun d9 => (0 ≤ n4 ∧ n4 < (i_n : Nat)) ∧ ∃ b10 n11, Ae w8 (Addr.add (Addr.add d9 (n4.toNat * 3)) 1) 0 [.bool b10, .int .u64 n11] ∧ Aa Tryz.prog 142 [.int .i64 d, .agg #[.bool b10, .int .u64 n11], .agg #[.bool p3_0, .int .u64 p3_1]] w8 (RetR R fun u13 w12 => ∃ b14 n15, u13 = .agg #[.bool b14, .int .u64 n15] ∧ Ab i (fun d17 => (0 ≤ n4 ∧ n4 < (i_n : Nat)) ∧ Af w12 (Addr.add (Addr.add d17 (n4.toNat * 3)) 1) 0 [.bool b14, .int .u64 n15] ∧ ∀ w18, w18 = setCells w12 (Addr.add (Addr.add d17 (n4.toNat * 3)) 1) 0 [.bool b14, .int .u64 n15] → R (.returned (.slice i i_n i_c)) w18)))) (∀ b19 w20, Ag w2 w20 b19 (.cells #[.int .u64 0, .bool false, .int .u64 0] 83) → SemW Tryz.prog (Builtin.append_ #[46, 46] 46 #[.slice i i_n i_c, .slice (some ⟨b19, 0, none⟩) 1 1]) (fun u22 w21 => ∃ a23 l23 c23, u22 = .slice a23 l23 c23 ∧ ∀ n24 : Int, n24 = IntKind.i64.wrap (((l23 : Nat) : Int) - 1) → ∃ (I25 : Int → World → Prop) (m25 : Int → World → Nat), I25 n24 w21 ∧ ∀ n26 w27, I25 n26 w27 → ifB (decide (n26 > n4)) (Ab a23 (fun d28 => (0 ≤ (IntKind.i64.wrap (n26 - 1)) ∧ (IntKind.i64.wrap (n26 - 1)) < (l23 : Nat)) ∧ ∃ n29 b30 n31, Ae w27 (Addr.add d28 ((IntKind.i64.wrap (n26 - 1)).toNat * 3)) 0 [.int .u64 n29, .bool b30, .int .u64 n31] ∧ Ab a23 (fun d32 => (0 ≤ n26 ∧ n26 < (l23 : Nat)) ∧ Af w27 (Addr.add d32 (n26.toNat * 3)) 0 [.int .u64 n29, .bool b30, .int .u64 n31] ∧ ∀ w33, w33 = setCells w27 (Addr.add d32 (n26.toNat * 3)) 0 [.int .u64 n29, .bool b30, .int .u64 n31] → (I25 (IntKind.i64.wrap (n26 - 1)) w33 ∧ m25 (IntKind.i64.wrap (n26 - 1)) w33 < m25 n26 w27)))) (Aa Tryz.prog 143 [.int .i64 d, .agg #[.bool p3_0, .int .u64 p3_1]] w27 (RetR R fun u35 w34 => ∃ b36 n37, u35 = .agg #[.bool b36, .int .u64 n37] ∧ Ab a23 (fun d39 => (0 ≤ n4 ∧ n4 < (l23 : Nat)) ∧ Af w34 (Addr.add d39 (n4.toNat * 3)) 0 [.int .u64 p2, .bool b36, .int .u64 n37] ∧ ∀ w40, w40 = setCells w34 (Addr.add d39 (n4.toNat * 3)) 0 [.int .u64 p2, .bool b36, .int .u64 n37] → R (.returned (.slice a23 l23 c23)) w40)))) w20))) (∀ b41 w42, Ag w2 w42 b41 (.cells #[.int .u64 0, .bool false, .int .u64 0] 83) → SemW Tryz.prog (Builtin.append_ #[46, 46] 46 #[.slice i i_n i_c, .slice (some ⟨b41, 0, none⟩) 1 1]) (fun u44 w43 => ∃ a45 l45 c45, u44 = .slice a45 l45 c45 ∧ ∀ n46 : Int, n46 = IntKind.i64.wrap (((l45 : Nat) : Int) - 1) → ∃ (I47 : Int → World → Prop) (m47 : Int → World → Nat), I47 n46 w43 ∧ ∀ n48 w49, I47 n48 w49 → ifB (decide (n48 > n4)) (Ab a45 (fun d50 => (0 ≤ (IntKind.i64.wrap (n48 - 1)) ∧ (IntKind.i64.wrap (n48 - 1)) < (l45 : Nat)) ∧ ∃ n51 b52 n53, Ae w49 (Addr.add d50 ((IntKind.i64.wrap (n48 - 1)).toNat * 3)) 0 [.int .u64
 n51, .bool b52, .int .u64 n53] ∧ Ab a45 (fun d54 => (0 ≤ n48 ∧ n48 < (l45 : Nat)) ∧ Af w49 (Addr.add d54 (n48.toNat * 3)) 0 [.int .u64 n51, .bool b52, .int .u64 n53] ∧ ∀ w55, w55 = setCells w49 (Addr.add d54 (n48.toNat * 3)) 0 [.int .u64 n51, .bool b52, .int .u64 n53] → (I47 (IntKind.i64.wrap (n48 - 1)) w55 ∧ m47 (IntKind.i64.wrap (n48 - 1)) w55 < m47 n48 w49)))) (Aa Tryz.prog 143 [.int .i64 d, .agg #[.bool p3_0, .int .u64 p3_1]] w49 (RetR R fun u57 w56 => ∃ b58 n59, u57 = .agg #[.bool b58, .int .u64 n59] ∧ Ab a45 (fun d61 => (0 ≤ n4 ∧ n4 < (l45 : Nat)) ∧ Af w56 (Addr.add d61 (n4.toNat * 3)) 0 [.int .u64 p2, .bool b58, .int .u64 n59] ∧ ∀ w62, w62 = setCells w56 (Addr.add d61 (n4.toNat * 3)) 0 [.int .u64 p2, .bool b58, .int .u64 n59] → R (.returned (.slice a45 l45 c45)) w62)))) w42))
theorem sx126.ok {d : Int} {i : Option Addr} {i_n i_c : Nat} {p2 : Int} {p3_0 : Bool} {p3_1 : Int} {R : Ending → World → Prop} {w : World} (h : sx126 d i i_n i_c p2 p3_0 p3_1 R w) : Aa Tryz.prog 126 [.int .i64 d, .slice i i_n i_c, .int .u64 p2, .agg #[.bool p3_0, .int .u64 p3_1]] w R :=
 okOf { locals := [7], sem := [43], named := [46], draws := [(3, { order := (ol [0,1,2,3,4,5,6,7,8,9,10,11,12] .nil), bars := [9, 12] })], loops := [(7, { slots := [(10, .int .i64)], cells := [] })] } mix Tryz.func126 (by kernel_rfl) (by kernel_rfl) (by kernel_rfl) h
def sx99 (list : Option Addr) (list_n list_c : Nat) (kind : Int) (recs : Option Addr) (recs_n recs_c : Nat) (R : Ending → World → Prop) (w : World) : Prop :=
 Aa Tryz.prog 43 [.slice list list_n list_c] w (RetR R fun u2 w1 => ∃ n3, u2 = .int .i64 n3 ∧ ifB (n3 != 0) (R (.returned (.tuple #[.slice none 0 0, .int .i64 0, .int .i64 30])) w1) (Aa Tryz.prog 80 [.int .i64 kind] w1 (RetR R fun u6 w5 => ∃ b7, u6 = .bool b7 ∧ ifB (!b7) (R (.returned (.tuple #[.slice none 0 0, .int .i64 0, .int .i64 1])) w5) (∀ b9 w10, Ag w5 w10 b9 (.cells #[] 83) → ∃ (I11 : Option Addr → Nat → Nat → Int → Int → World → Prop) (m11 : Option Addr → Nat → Nat → Int → Int → World → Nat), I11 (some ⟨b9, 0, none⟩) 0 0 0 0 w10 ∧ ∀ a12 l12 c12 n13 n14 w15, I11 a12 l12 c12 n13 n14 w15 → ifB (decide (n14 < ((recs_n : Nat) : Int))) (Ab recs (fun d16 => (0 ≤ n14 ∧ n14 < (recs_n : Nat)) ∧ ∃ n17 x18, Ae w15 (Addr.add d16 (n14.toNat * 2)) 0 [.int .u64 n17, .float .f64 x18] ∧ Aa Tryz.prog 106 [.slice list list_n list_c, .agg #[.int .u64 n17, .float .f64 x18]] w15 (RetR R fun u20 w19 => ∃ n21 x22 n23, u20 = .tuple #[.agg #[.int .u64 n21, .float .f64 x22], .int .i64 n23] ∧ ∀ w25, Grew w19 w25 → ifB (n23 == 3) (ifB (n23 == 1) (∀ w26, Grew w25 w26 → Aa Tryz.prog 127 [.int .i64 kind, .float .f64 x22] w26 (RetR R fun u28 w27 => ∃ b29 n30, u28 = .agg #[.bool b29, .int .u64 n30] ∧ Ad w26 w27 [] ∧ Aa Tryz.prog 126 [.int .i64 kind, .slice a12 l12 c12, .int .u64 n21, .agg #[.bool b29, .int .u64 n30]] w27 (RetR R fun u33 w32 => ∃ a34 l34 c34, u33 = .slice a34 l34 c34 ∧ (I11 a34 l34 c34 (IntKind.i64.wrap (n13 + 1)) (IntKind.i64.wrap (n14 + 1)) w32 ∧ m11 a34 l34 c34 (IntKind.i64.wrap (n13 + 1)) (IntKind.i64.wrap (n14 + 1)) w32 < m11 a12 l12 c12 n13 n14 w15)))) ((I11 a12 l12 c12 (IntKind.i64.wrap (n13 + 1)) (IntKind.i64.wrap (n14 + 1)) w25 ∧ m11 a12 l12 c12 (IntKind.i64.wrap (n13 + 1)) (IntKind.i64.wrap (n14 + 1)) w25 < m11 a12 l12 c12 n13 n14 w15))) (ifB (n23 == 1) (∀ w36, Grew w25 w36 → Aa Tryz.prog 127 [.int .i64 kind, .float .f64 x22] w36 (RetR R fun u38 w37 => ∃ b39 n40, u38 = .agg #[.bool b39, .int .u64 n40] ∧ Ad w36 w37 [] ∧ Aa Tryz.prog 126 [.int .i64 kind, .slice a12 l12 c12, .int .u64 n21, .agg #[.bool b39, .int .u64 n40]] w37 (RetR R fun u43 w42 => ∃ a44 l44 c44, u43 = .slice a44 l44 c44 ∧ (I11 a44 l44 c44 n13 (IntKind.i64.wrap (n14 + 1)) w42 ∧ m11 a44 l44 c44 n13 (IntKind.i64.wrap (n14 + 1)) w42 < m11 a12 l12 c12 n13 n14 w15)))) ((I11 a12 l12 c12 n13 (IntKind.i64.wrap (n14 + 1)) w25 ∧ m11 a12 l12 c12 n13 (IntKind.i64.wrap (n14 + 1)) w25 < m11 a12 l12 c12 n13 n14 w15)))))) (R (.returned (.tuple #[.slice a12 l12 c12, .int .i64 n13, .int .i64 0])) w15)))))
theorem sx99.ok {list : Option Addr} {list_n list_c : Nat} {kind : Int} {recs : Option Addr} {recs_n recs_c : Nat} {R : Ending → World → Prop} {w : World} (h : sx99 list list_n list_c kind recs recs_n recs_c R w) : Aa Tryz.prog 99 [.slice list list_n list_c, .int .i64 kind, .slice recs recs_n recs_c] w R :=
 okOf { locals := [12], draws := [(14, { order := (ol [0,1,2,3,4,5,6,7,8,9] .nil), bars := [8] })], loops := [(8, { slots := [(9, .slice), (10, .int .i64), (11, .int .i64)], cells := [] })] } mix Tryz.func99 (by kernel_rfl) (by kernel_rfl) (by kernel_rfl) h
def Aez (t : List Am) (k : Int) (j : Nat) : Prop := j ≤ t.length ∧ (∀ x ∈ t.take j, x.key < k) ∧ ∀ x, t[j]? = some x → k ≤ x.key
theorem Ab7 {a : Option Addr} {n c : Nat} {l : List Am} {key : Int} {w : World} (hr : Reads w Enc.pair (a, n, c) l) (hl : l.length ≤ 9223372036854775806) : Aa Tryz.prog 141 [.slice a n c, .int .u64 key] w (Rets fun v w' => w' = w ∧ ∃ j : Nat, v = .int .i64 j ∧ Aez l key j) := by
 refine sx141.ok ?_
 unfold sx141
 have hn : n = l.length := hr.2.1
 subst hn
 refine ⟨fun i w' => ∃ j : Nat, i = j ∧ j ≤ l.length ∧ (∀ x ∈ l.take j, x.key < key) ∧ w' = w, fun i _ => l.length - i.toNat, ⟨0, rfl, Nat.zero_le _, by simp, rfl⟩, ?_⟩
 rintro i w3 ⟨j, rfl, hj, h1, rfl⟩
 refine ⟨fun hlt => ?_, fun hge => ?_⟩
 ·simp only [decide_eq_true_eq] at hlt
  obtain ⟨d, x, rfl, hx, hc⟩ := hr.at0 (k := j) (by omega)
  obtain ⟨-, c2⟩ := pair_cells hc
  have hw : IntKind.i64.wrap ((j : Int) + 1) = ((j + 1 : Nat) : Int) := by rw [IntKind.wrap_i64]; omega
  rw [Ab, hw]
  refine ⟨⟨by omega, by omega⟩, x.key, c2, fun hb => ?_, fun hb => ?_⟩
  ·simp only [decide_eq_true_eq] at hb
   refine ⟨⟨j + 1, rfl, by omega, fun z hz => ?_, rfl⟩, by show l.length - (((j + 1 : Nat) : Int)).toNat < l.length - ((j : Int)).toNat; omega⟩
   rw [Ak hx, List.mem_append] at hz
   rcases hz with hz | hz
   ·exact h1 z hz
   ·simp at hz; rw [hz]; exact hb
  ·simp only [decide_eq_false_iff_not] at hb
   exact ⟨_, rfl, rfl, j, rfl, hj, h1, fun z hz => by rw [hx] at hz; cases hz; omega⟩
 ·simp only [decide_eq_false_iff_not] at hge
  exact ⟨_, rfl, rfl, j, rfl, hj, h1, fun z hz => by have := (List.getElem?_eq_some_iff.1 hz).1; omega⟩
def Ab8 (w : World) (B : Nat) (a : Option Addr) (m : Tab) (t : List Am) (u : Value) (w' : World) : Prop :=
 ∃ (a' : Option Addr) (n' c' : Nat) (R : List Am), u = .slice a' n' c' ∧ Own w' B 83 Enc.pair a' n' c' R ∧ Upd (Blk a) w w' ∧ Same m R ∧ R.length ≤ t.length + 1
set_option maxHeartbeats 2000000 in
theorem Ab9 {w : World} {B : Nat} {a : Option Addr} {n c : Nat} {m : Tab} {t : List Am} {k kind : Int} {v : ValV} (ho : Own w B 83 Enc.pair a n c t) (hB : B ≤ w.heap.size) (hS : Same m t) (hlen : t.length ≤ 100000) (htf : ∀ x ∈ t, x.Fits) (hv : v.Fits) :
  Aa Tryz.prog 126 [.int .i64 kind, .slice a n c, .int .u64 k, v.v] w (Rets (Ab8 w B a (putT kind m k v) t)) := by
 refine sx126.ok ?_
 unfold sx126
 have hn : n = t.length := ho.len
 subst hn
 intro w1 hg1
 have ho1 := ho.grew hg1
 have hB1 := Nat.le_trans hB hg1.size
 refine (Ab7 (key := k) ho1.reads (by omega)).use fun u w2 ⟨hw, j, hu, hj, h1, h2⟩ => ?_
 subst hw; subst hu
 have pcell : ∀ {w' : World} {d : Addr} {x : Am} {i : Nat}, Ae w' (d.add (i * Enc.pair.sz)) 0 (Enc.pair.f x) → Ae w' (Addr.add (Addr.add d (((i : Nat) : Int).toNat * 3)) 1) 0 [.bool x.has, .int .u64 x.bits] := by
  intro w' d x i h
  have a1 := Ai h 1 _ rfl
  have a2 := Ai h 2 _ rfl
  refine ⟨?_, ?_, trivial⟩
  ·simpa [Enc.pair, Addr.add_add] using a1
  ·simpa [Enc.pair, Addr.add_add] using a2
 -- the shifting up, and the part put in
 have tail : (∀ x, t[j]? = some x → k < x.key) → ∀ (b : Nat) (w42 : World), Ag w2 w42 b (.cells #[.int .u64 0, .bool false, .int .u64 0] 83) →
   SemW Tryz.prog (Builtin.append_ #[46, 46] 46 #[.slice a t.length c, .slice (some ⟨b, 0, none⟩) 1 1]) (fun u44 w43 => ∃ (a45 : Option Addr) (l45 c45 : Nat), u44 = .slice a45 l45 c45 ∧ ∀ n46 : Int, n46 = IntKind.i64.wrap (((l45 : Nat) : Int) - 1) → ∃ (I47 : Int → World → Prop) (m47 :
   Int → World → Nat), I47 n46 w43 ∧ ∀ (n48 : Int) (w49 : World), I47 n48 w49 → (((decide (n48 > (j : Int))) = true → Ab a45 (fun d50 => (0 ≤ (IntKind.i64.wrap (n48 - 1)) ∧ (IntKind.i64.wrap (n48 - 1)) < (l45 : Nat)) ∧ ∃
   (n51 : Int) (b52 : Bool) (n53 : Int), Ae w49 (Addr.add d50 ((IntKind.i64.wrap (n48 - 1)).toNat * 3)) 0 [.int .u64 n51, .bool b52, .int .u64 n53] ∧ Ab a45 (fun d54 => (0 ≤ n48 ∧ n48 < (l45 : Nat)) ∧ Af
   w49 (Addr.add d54 (n48.toNat * 3)) 0 [.int .u64 n51, .bool b52, .int .u64 n53] ∧ ∀ w55, w55 = setCells w49 (Addr.add d54 (n48.toNat * 3)) 0 [.int .u64 n51, .bool b52, .int .u64 n53] → (I47 (IntKind.i64.wrap (n48 - 1))
   w55 ∧ m47 (IntKind.i64.wrap (n48 - 1)) w55 < m47 n48 w49)))) ∧ ((decide (n48 > (j : Int))) = false → Aa Tryz.prog 143 [.int .i64 kind, .agg #[.bool v.has, .int .u64 v.bits]] w49 (RetR (Rets (Ab8 w B a (putT kind m k v) t)) fun u57 w56 => ∃ (b58 : Bool) (n59 : Int),
   u57 = .agg #[.bool b58, .int .u64 n59] ∧ Ab a45 (fun d61 => (0 ≤ (j : Int) ∧ (j : Int) < (l45 : Nat)) ∧ Af w56 (Addr.add d61 ((j : Int).toNat * 3)) 0 [.int .u64 k, .bool b58, .int .u64 n59] ∧ ∀ w62, w62 = setCells w56 (Addr.add
   d61 ((j : Int).toNat * 3)) 0 [.int .u64 k, .bool b58, .int .u64 n59] → Rets (Ab8 w B a (putT kind m k v) t) (.returned (.slice a45 l45 c45)) w62))))) w42 := by
  intro h2' b w42 hal
  refine Bc (l2 := [⟨0, false, 0⟩]) R7 ho1 hal rfl rfl hB1 (by simp only [maxLen, List.length_singleton]; omega) (by simp only [List.length_singleton]; omega) ?_
  rintro u w43 ⟨a45, l45, c45, rfl, ho43, hu43, hb43⟩
  have hl45 : l45 = t.length + 1 := by rw [ho43.len]; simp
  subst hl45
  refine ⟨_, _, _, rfl, fun n46 h46 => ?_⟩
  have e46 : n46 = (t.length : Int) := by rw [h46, IntKind.wrap_i64]; omega
  have hUall : ∀ {w' : World}, Upd (fun b => Blk a b ∨ Blk a45 b) w2 w' → Upd (Blk a) w w' := fun hu => hg1.then_upd (hu.mono fun b hlt hb => by
   rcases hb with hb | hb
   ·exact hb
   ·rcases hb43 b hb with hb | hb
    ·exact hb
    ·omega)
  refine ⟨fun i w49 => ∃ (q : Nat) (y : Am), i = q ∧ j ≤ q ∧ q ≤ t.length ∧ Own w49 B 83 Enc.pair a45 (t.length + 1) c45 (t.take q ++ y :: t.drop q) ∧ Upd (fun b => Blk a b ∨ Blk a45 b) w2 w49, fun i _ => i.toNat, ⟨t.length, ⟨0, false, 0⟩, e46, hj, Nat.le_refl _, by simpa using ho43, hu43.mono fun b _ hb => .inl hb⟩, ?_⟩
  rintro i w49 ⟨q, y, rfl, hjq, hq, ho49, hu49⟩
  have hlen49 : (t.take q ++ y :: t.drop q).length = t.length + 1 := by simp; omega
  refine ⟨fun hgt => ?_, fun hle => ?_⟩
  ·simp only [decide_eq_true_eq, gt_iff_lt] at hgt
   have e1 : IntKind.i64.wrap ((q : Int) - 1) = ((q - 1 : Nat) : Int) := by rw [IntKind.wrap_i64]; omega
   rw [e1]
   obtain ⟨d, x, hd, hx, hc⟩ := ho49.reads.at0 (k := q - 1) (by omega)
   have hx' : t[q - 1]? = some x := by
    rw [List.getElem?_append_left (by simp; omega), List.getElem?_take, if_pos (by omega)] at hx
    exact hx
   obtain ⟨d', hd', hR, hO, hU⟩ := ho49.set (i := q) (by omega) x
   rw [hd] at hd'; cases hd'
   have eset : (t.take q ++ y :: t.drop q).set q x = t.take (q - 1) ++ x :: t.drop (q - 1) := by
    have t1 : t.take q = t.take (q - 1) ++ [x] := by
     have := Ak hx'
     rwa [show q - 1 + 1 = q from by omega] at this
    have t2 : t.drop (q - 1) = x :: t.drop q := by
     have := Hg hx'
     rwa [show q - 1 + 1 = q from by omega] at this
    rw [List.set_append_right _ _ (by simp; omega), show q - (t.take q).length = 0 from by simp; omega]
    rw [t2, t1]; simp
   rw [eset] at hO
   rw [hd, Ab]
   refine ⟨⟨by omega, by omega⟩, _, _, _, (pair_cells hc).1, ?_⟩
   rw [Ab]
   refine ⟨⟨by omega, by omega⟩, hR, ?_⟩
   rintro w55 rfl
   refine ⟨⟨q - 1, x, rfl, by omega, by omega, hd ▸ hO, by rw [← hd]; exact hu49.trans (hU.mono fun b _ hb => .inr hb)⟩, ?_⟩
   show ((q - 1 : Nat) : Int).toNat < ((q : Nat) : Int).toNat
   omega
  ·simp only [decide_eq_false_iff_not, gt_iff_lt] at hle
   have hqj : q = j := by omega
   subst hqj
   refine (Sf hv).use fun u w56 ⟨hv', hg56⟩ => ?_
   subst hv'
   obtain ⟨d', hd', hR, hO, hU⟩ := (ho49.grew hg56).set (i := q) (by omega) (Bt k (fitV kind v))
   have eset : (t.take q ++ y :: t.drop q).set q (Bt k (fitV kind v)) = t.take q ++ Bt k (fitV kind v) :: t.drop q := by
    rw [List.set_append_right _ _ (by simp; omega), show q - (t.take q).length = 0 from by simp; omega]; rfl
   rw [eset] at hO
   refine ⟨_, _, rfl, ?_⟩
   rw [hd', Ab]
   refine ⟨⟨by omega, by omega⟩, hR, ?_⟩
   rintro w62 rfl
   refine ⟨_, rfl, _, _, _, _, rfl, hd' ▸ hO, hUall ((hu49.then_grew hg56).trans (hU.mono fun b _ hb => .inr hb)), Ts hS hj h1 h2', ?_⟩
   simp; omega
 refine ⟨_, rfl, fun hlt => ?_, fun hge b41 w42 hal => ?_⟩
 ·simp only [decide_eq_true_eq] at hlt
  obtain ⟨d, x, hd, hx, hc⟩ := ho1.reads.at0 (k := j) (by omega)
  have hge := h2 x hx
  rw [hd, Ab]
  refine ⟨⟨by omega, by omega⟩, x.key, (pair_cells hc).2, fun hb w8 hg8 => ?_, fun hb b19 w20 hal => ?_⟩
  ·simp only [beq_iff_eq] at hb
   have ho8 := ho1.grew hg8
   obtain ⟨d', x', hd', hx', hc8⟩ := ho8.reads.at0 (k := j) (by omega)
   rw [hd] at hd'; cases hd'
   rw [hx] at hx'; cases hx'
   rw [Ab]
   have hxf := htf x (List.mem_of_getElem? hx)
   refine ⟨⟨by omega, by omega⟩, _, _, pcell hc8, (Yv (kind := kind) (a := x.val) hxf.2 hv).use fun u w12 ⟨hv', hg12⟩ => ?_⟩
   subst hv'
   have ho12 := ho8.grew hg12
   obtain ⟨g, hg, hR, hO, hU⟩ := ho12.setVal hx (Cv kind x.val v)
   rw [hd] at hg; cases hg
   refine ⟨_, _, rfl, ?_⟩
   rw [Ab]
   simp only [Au, Nat.zero_add, Int.toNat_natCast]
   refine ⟨⟨by omega, by omega⟩, hR, ?_⟩
   rintro w18 rfl
   have hsame := Abq (kind := kind) (v := v) hS hx hb
   rw [hb] at hO
   refine ⟨_, rfl, _, _, _, _, rfl, hd ▸ hO, ?_, hsame, by simp⟩
   exact (hg1.trans (hg8.trans hg12)).then_upd (hU.mono fun b _ hb => ⟨_, rfl, hb.symm⟩)
  ·simp only [beq_eq_false_iff_ne, ne_eq] at hb
   have := tail (fun z hz => by rw [hx] at hz; cases hz; omega) b19 w20 hal
   rw [hd] at this
   exact this
 ·simp only [decide_eq_false_iff_not] at hge
  exact tail (fun z hz => by have := (List.getElem?_eq_some_iff.1 hz).1; omega) b41 w42 hal
theorem Y7 {m : Tab} {t : List Am} (h : Same m t) (hm : ∀ x ∈ m, (0 ≤ x.1 ∧ x.1 < u64m) ∧ x.2.Fits) : ∀ x ∈ t, x.Fits := by
 intro x hx
 have := (h.mem x.key x.val).1 hx
 have := hm _ ((Aau h.nodup).1 this)
 exact ⟨this.1, this.2⟩
theorem Kl {l : List OpV} {kind : Int} (hl : ∀ o ∈ l, o.Fits) : ∀ {rs : List RecV}, (∀ x ∈ rs, x.Fits) → ∀ {m : Tab × Int}, D8 m.1 → D8 (rs.foldl (A2 l kind) m).1
 | [], _, m, hm => hm
 | r :: rs, hf, m, hm => by
  have hR := Hl hl (hf r (by simp))
  show D8 (rs.foldl (A2 l kind) (A2 l kind m r)).1
  refine Kl (rs := rs) (m := A2 l kind m r) hl (fun x hx => hf x (by simp [hx])) ?_
  unfold A2
  split
  ·exact Mf hm hR.1 (Jc (Jx hm _) (Gh hR.2))
  ·split
   ·exact hm
   ·exact hm
set_option maxHeartbeats 1000000 in
theorem Y8 {a b : Option Addr} {n c m k : Nat} {l : List OpV} {rs : List RecV} {kind : Int} {w : World} (hr : Reads w Enc.op3 (a, n, c) l) (hl : ∀ o ∈ l, o.Fits) (hi : Reads w Enc.rcd (b, m, k) rs) (hf : ∀ x ∈ rs, x.Fits) (hs : rs.length ≤ 4096) :
  Aa Tryz.prog 99 [.slice a n c, .int .i64 kind, .slice b m k] w (Rets fun u w' => ∃ a' n' c', u = .tuple #[.slice a' n' c', .int .i64 (if Aw l ∧ Cz kind then (Aq l kind rs).2 else 0), .int .i64 (if Aw l then if Cz kind then 0 else 1 else 30)] ∧ Own w' w.heap.size 83 Enc.pair a' n' c' (if Aw l ∧ Cz kind then Bv (Aq l kind rs).1 else []) ∧ Grew w w' ∧ n' ≤ 4096) := by
 refine sx99.ok ?_
 unfold sx99
 have hm : m = rs.length := hi.2.1
 subst hm
 have nb : ∀ {x y : World}, Ad x y [] := by intro x y; simp [Ad]
 refine (J4 hr).use fun u w1 ⟨hv, hg1⟩ => ?_
 subst hv
 cases hc : Aw l
 ·refine ⟨_, rfl, fun _ => ⟨_, rfl, none, 0, 0, by simp, by simpa using Own.nil _ _ _ _, hg1, by omega⟩, fun h => (by simp at h)⟩
 refine ⟨_, rfl, fun h => (by simp at h), fun _ => Mn.use fun u w5 ⟨hv, hw⟩ => ?_⟩
 subst hv; subst hw
 cases hk : Cz kind
 ·refine ⟨_, rfl, fun _ => ⟨_, rfl, none, 0, 0, by simp, by simpa using Own.nil _ _ _ _, hg1, by omega⟩, fun h => (by simp at h)⟩
 refine ⟨_, rfl, fun h => (by simp at h), fun _ b9 w10 hal => ?_⟩
 have hg10 := hg1.trans hal.grew
 have ho10 := Own.alloc (E := Enc.pair) (l := []) hal hg1.size rfl (by decide)
 have hS0 : Same (Aq l kind []).1 [] := ⟨by simp [Aq], List.Pairwise.nil, fun k v => by simp [Aq, getM]⟩
 refine ⟨fun a' l' c' tr i w' => ∃ (j : Nat) (t : List Am), i = j ∧ j ≤ rs.length ∧ tr = (Aq l kind (rs.take j)).2 ∧ Own w' w.heap.size 83 Enc.pair a' l' c' t ∧ Same (Aq l kind (rs.take j)).1 t ∧ t.length ≤ j ∧ Grew w w', fun _ _ _ _ i _ => rs.length - i.toNat, ⟨0, [], rfl, Nat.zero_le _, rfl, ho10, hS0, by simp, hg10⟩, ?_⟩
 rintro a12 l12 c12 tr i w15 ⟨j, t, rfl, hj, rfl, ho15, hS, htl, hg15⟩
 refine ⟨fun hlt => ?_, fun hge => ?_⟩
 ·simp only [decide_eq_true_eq] at hlt
  obtain ⟨d, r, rfl, hrj, hcc⟩ := (hi.grew hg15).at0 (k := j) (by omega)
  have hrf := hf r (List.mem_of_getElem? hrj)
  have hw : IntKind.i64.wrap ((j : Int) + 1) = ((j + 1 : Nat) : Int) := by rw [IntKind.wrap_i64]; omega
  have dec : rs.length - (((j + 1 : Nat) : Int)).toNat < rs.length - ((j : Int)).toNat := by omega
  have hstep : Aq l kind (rs.take (j + 1)) = A2 l kind (Aq l kind (rs.take j)) r := by rw [Ak hrj, Kj]
  have hcell : Ae w15 (Addr.add d (((j : Nat) : Int).toNat * 2)) 0 [.int .u64 r.key, .float .f64 r.val] := hcc
  have hTF : D8 (Aq l kind (rs.take j)).1 := Kl hl (fun x hx => hf x (List.mem_of_mem_take hx)) (by intro x hx; simp at hx)
  refine ⟨⟨by omega, by omega⟩, _, _, hcell, (W5 (hr.grew hg15) hl hrf).use fun u w20 ⟨hv, hg20⟩ => ?_⟩
  subst hv
  have hR := Hl hl hrf
  refine ⟨_, _, _, rfl, fun w25 hg25 => ?_⟩
  have hg25' := hg15.trans (hg20.trans hg25)
  have ho25 := (ho15.grew hg20).grew hg25
  rw [hw]
  generalize hX : Aq l kind (rs.take j) = X at hS hTF hstep
  generalize hout : (runB l r).1 = out at hR
  refine ⟨fun h3 => ⟨fun h1 => ?_, fun h1 => ⟨⟨j + 1, t, rfl, by omega, ?_, ho25, ?_, by omega, hg25'⟩, dec⟩⟩, fun h3 => ⟨fun h1 w36 hg36 => ?_, fun h1 => ⟨⟨j + 1, t, rfl, by omega, ?_, ho25, ?_, by omega, hg25'⟩, dec⟩⟩⟩
  all_goals simp only [beq_iff_eq, beq_eq_false_iff_ne, ne_eq] at *
  ·omega
  ·rw [hstep]; unfold A2; rw [if_neg h1, if_pos h3]
  ·rw [hstep]; unfold A2; rw [if_neg h1, if_pos h3]; exact hS
  ·have hnew : Aq l kind (rs.take (j + 1)) = (putT kind X.1 out.key (ofV kind out.val), X.2) := by rw [hstep]; unfold A2; rw [if_pos h1, hout]
   refine (Nv hR.2).use fun u w37 ⟨hv, hg37⟩ => ?_
   subst hv
   have hg37' := hg25'.trans (hg36.trans hg37)
   have ho37 := (ho25.grew hg36).grew hg37
   refine ⟨_, _, rfl, nb, (Ab9 (k := out.key) (kind := kind) ho37 hg37'.size hS (by omega) (Y7 hS hTF) (Gh hR.2)).use fun u w42 ⟨a', n', c', R, hv, hoR, huR, hSR, hlR⟩ => ?_⟩
   subst hv
   exact ⟨_, _, _, rfl, ⟨j + 1, R, rfl, by omega, by rw [hnew], hoR, by rw [hnew]; exact hSR, by omega, hg37'.then_own huR fun b hb => (ho37.blk hb).1⟩, dec⟩
  ·rw [hstep]; unfold A2; rw [if_neg h1, if_neg h3]
  ·rw [hstep]; unfold A2; rw [if_neg h1, if_neg h3]; exact hS
 ·simp only [decide_eq_false_iff_not] at hge
  rw [List.take_of_length_le (by omega)] at hS ⊢
  rw [hS.eq] at ho15 htl
  have hl12 := ho15.len
  exact ⟨_, rfl, a12, l12, c12, by simp, by simpa using ho15, hg15, by omega⟩
end Go.Proofs.YtcpkneemhfnanaaGreat
