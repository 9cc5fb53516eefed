/- The reference's worker: New, its row of attempts, what it says and tells. Conditions: none. -/
import Derived.Test.YtcpkneemhfnanaaGreatProg
import Derived.Test.YtcpkneemhfnanaaGreatRefF
import Derived.Test.YtcpkneemhfnanaaGreatRefP
import Derived.Test.YtcpkneemhfnanaaGreatNetB
import Derived.Test.YtcpkneemhfnanaaGreatFoldB
import Derived.Test.YtcpkneemhfnanaaGreatSxWr
namespace Go.Proofs.YtcpkneemhfnanaaGreat
open Go.Sx
set_option maxRecDepth 100000
set_option linter.unusedVariables false
set_option linter.unusedSimpArgs false
def sx10 (p_0 p_1 p_2 : Int) (p_3 : Option Addr) (p_3_n p_3_c : Nat) (p_4 p_5 p_6 p_7 node : Int) (R : Ending → World → Prop) (w : World) : Prop :=
 ∀ w1, Grew w w1 → Aa Tryz.prog 40 [.agg #[.int .i64 p_0, .int .i64 p_1, .int .i64 p_2, .slice p_3 p_3_n p_3_c, .int .i64 p_4, .int .i64 p_5, .int .i64 p_6, .int .i64 p_7]] w1 (RetR R fun u3 w2 => ∃ n4, u3 = .int .i64 n4 ∧ ifB (n4 != 0) (R (.returned (.tuple #[.pointer none, .int .i64 n4])) w2) (Aa Tryz.prog 41 [.agg #[.int .i64 p_0, .int .i64 p_1, .int .i64 p_2, .slice p_3 p_3_n p_3_c, .int .i64 p_4, .int .i64 p_5, .int .i64 p_6, .int .i64 p_7], .int .i64 node] w2 (RetR R fun u7 w6 => ∃ n8, u7 = .int .i64 n8 ∧ ifB (n8 != 2) (R (.returned (.tuple #[.pointer none, .int .i64 170])) w6) (∀ b10 w11, Ag w6 w11 b10 (.cells #[] 79) → SemW Tryz.prog (Builtin.append_ #[22, 22] 22 #[.slice (some ⟨b10, 0, none⟩) 0 0, .slice p_3 p_3_n p_3_c]) (fun u13 w12 => ∃ a14 l14 c14, u13 = .slice a14 l14 c14 ∧ ∀ b15 w16, Ag w12 w16 b15 (.cells [.int .i64 p_0, .int .i64 p_1, .int .i64 p_2, .slice a14 l14 c14, .int .i64 p_4, .int .i64 p_5, .int .i64 p_6, .int .i64 p_7, .int .i64 node, .slice none 0 0].toArray 107) → R (.returned (.tuple #[.pointer (some ⟨b15, 0, none⟩), .int .i64 0])) w16) w11))))
theorem sx10.ok {p_0 p_1 p_2 : Int} {p_3 : Option Addr} {p_3_n p_3_c : Nat} {p_4 p_5 p_6 p_7 node : Int} {R : Ending → World → Prop} {w : World} (h : sx10 p_0 p_1 p_2 p_3 p_3_n p_3_c p_4 p_5 p_6 p_7 node R w) : Aa Tryz.prog 10 [.agg #[.int .i64 p_0, .int .i64 p_1, .int .i64 p_2, .slice p_3 p_3_n p_3_c, .int .i64 p_4, .int .i64 p_5, .int .i64 p_6, .int .i64 p_7], .int .i64 node] w R :=
 okOf { locals := [2], sem := [21] } mix Tryz.func10 (by kernel_rfl) (by kernel_rfl) (by kernel_rfl) h
def sx97 (w0 : Nat) (batch : Int) (R : Ending → World → Prop) (w : World) : Prop :=
 ∃ (I1 : Int → World → Prop) (m1 : Int → World → Nat), I1 0 w ∧ ∀ n2 w3, I1 n2 w3 → ∃ a4 l4 c4, w3.cell? ⟨w0, 9, none⟩ = some (.slice a4 l4 c4) ∧ ifB (decide (n2 < ((l4 : Nat) : Int))) (∃ a5 l5 c5, w3.cell? ⟨w0, 9, none⟩ = some (.slice a5 l5 c5) ∧ Ab a5 (fun d6 => (0 ≤ n2 ∧ n2 < (l5 : Nat)) ∧ ∃ n7, w3.cell? (Addr.add d6 (n2.toNat * 6)) = some (.int .i64 n7) ∧ ifB (decide (n7 < batch)) ((I1 (IntKind.i64.wrap (n2 + 1)) w3 ∧ m1 (IntKind.i64.wrap (n2 + 1)) w3 < m1 n2 w3)) (R (.returned (.int .i64 n2)) w3))) (R (.returned (.int .i64 n2)) w3)
theorem sx97.ok {w0 : Nat} {batch : Int} {R : Ending → World → Prop} {w : World} (h : sx97 w0 batch R w) : Aa Tryz.prog 97 [.pointer (some ⟨w0, 0, none⟩), .int .i64 batch] w R :=
 okOf { loops := [(2, { slots := [(5, .int .i64)], cells := [] })] } mix Tryz.func97 (by kernel_rfl) (by kernel_rfl) (by kernel_rfl) h
def sx102 (w0 : Nat) (m_0 m_1 m_2 m_3 m_4 m_5 : Int) (m_6 : Option Addr) (m_6_n m_6_c : Nat) (m_7 : Option Addr) (m_7_n m_7_c : Nat) (m_8 : Option Addr) (m_8_n m_8_c : Nat) (R : Ending → World → Prop) (w : World) : Prop :=
 ∀ w1, Grew w w1 → Aa Tryz.prog 97 [.pointer (some ⟨w0, 0, none⟩), .int .i64 m_3] w1 (RetR R fun u3 w2 => ∃ n4, u3 = .int .i64 n4 ∧ ∃ a6 l6 c6, w2.cell? ⟨w0, 9, none⟩ = some (.slice a6 l6 c6) ∧ ifB (decide (n4 < ((l6 : Nat) : Int))) (∃ a7 l7 c7, w2.cell? ⟨w0, 9, none⟩ = some (.slice a7 l7 c7) ∧ Ab a7 (fun d8 => (0 ≤ n4 ∧ n4 < (l7 : Nat)) ∧ ∃ n9, w2.cell? (Addr.add d8 (n4.toNat * 6)) = some (.int .i64 n9) ∧ ifB (n9 == m_3) (∃ a10 l10 c10, w2.cell? ⟨w0, 9, none⟩ = some (.slice a10 l10 c10) ∧ Ab a10 (fun d11 => (0 ≤ n4 ∧ n4 < (l10 : Nat)) ∧ ∃ n12, w2.cell? (Addr.add (Addr.add d11 (n4.toNat * 6)) 1) = some (.int .i64 n12) ∧ ∀ w13, Grew w2 w13 → ifB (n12 == m_4) (R (.returned (.int .i64 n4)) w13) (R (.returned (.int .i64 (-1))) w13))) (∀ w14, Grew w2 w14 → R (.returned (.int .i64 (-1))) w14))) (∀ w15, Grew w2 w15 → R (.returned (.int .i64 (-1))) w15))
theorem sx102.ok {w0 : Nat} {m_0 m_1 m_2 m_3 m_4 m_5 : Int} {m_6 : Option Addr} {m_6_n m_6_c : Nat} {m_7 : Option Addr} {m_7_n m_7_c : Nat} {m_8 : Option Addr} {m_8_n m_8_c : Nat} {R : Ending → World → Prop} {w : World} (h : sx102 w0 m_0 m_1 m_2 m_3 m_4 m_5 m_6 m_6_n m_6_c m_7 m_7_n m_7_c m_8 m_8_n m_8_c R w) : Aa Tryz.prog 102 [.pointer (some ⟨w0, 0, none⟩), .agg #[.int .i64 m_0, .int .i64 m_1, .int .i64 m_2, .int .i64 m_3, .int .i64 m_4, .int .i64 m_5, .slice m_6 m_6_n m_6_c, .slice m_7 m_7_n m_7_c, .slice m_8 m_8_n m_8_c]] w R :=
 okOf { locals := [3] } mix Tryz.func102 (by kernel_rfl) (by kernel_rfl) (by kernel_rfl) h
def sx101 (w0 : Nat) (kind to m_0 m_1 m_2 m_3 m_4 m_5 : Int) (m_6 : Option Addr) (m_6_n m_6_c : Nat) (m_7 : Option Addr) (m_7_n m_7_c : Nat) (m_8 : Option Addr) (m_8_n m_8_c : Nat) (R : Ending → World → Prop) (w : World) : Prop :=
 ∀ w1, Grew w w1 → ∀ w2, Grew w1 w2 → ∀ w3, Grew w2 w3 → ∃ n4, w3.cell? ⟨w0, 8, none⟩ = some (.int .i64 n4) ∧ R (.returned (.agg #[.int .i64 kind, .int .i64 n4, .int .i64 to, .int .i64 m_3, .int .i64 m_4, .int .i64 0, .slice none 0 0, .slice none 0 0, .slice none 0 0])) w3
theorem sx101.ok {w0 : Nat} {kind to m_0 m_1 m_2 m_3 m_4 m_5 : Int} {m_6 : Option Addr} {m_6_n m_6_c : Nat} {m_7 : Option Addr} {m_7_n m_7_c : Nat} {m_8 : Option Addr} {m_8_n m_8_c : Nat} {R : Ending → World → Prop} {w : World} (h : sx101 w0 kind to m_0 m_1 m_2 m_3 m_4 m_5 m_6 m_6_n m_6_c m_7 m_7_n m_7_c m_8 m_8_n m_8_c R w) : Aa Tryz.prog 101 [.pointer (some ⟨w0, 0, none⟩), .int .i64 kind, .int .i64 to, .agg #[.int .i64 m_0, .int .i64 m_1, .int .i64 m_2, .int .i64 m_3, .int .i64 m_4, .int .i64 m_5, .slice m_6 m_6_n m_6_c, .slice m_7 m_7_n m_7_c, .slice m_8 m_8_n m_8_c]] w R :=
 okOf { locals := [7, 8], draws := [(1, { order := (ol [0,1,2,3,4,5,6,7,8,9,10,11] .nil), bars := [11] })] } mix Tryz.func101 (by kernel_rfl) (by kernel_rfl) (by kernel_rfl) h
def sx103 (a : Option Addr) (a_n a_c : Nat) (b : Option Addr) (b_n b_c : Nat) (R : Ending → World → Prop) (w : World) : Prop :=
 ifB (((a_n : Nat) : Int) != ((b_n : Nat) : Int)) (R (.returned (.bool false)) w) (∃ (I1 : Int → World → Prop) (m1 : Int → World → Nat), I1 0 w ∧ ∀ n2 w3, I1 n2 w3 → ifB (decide (n2 < ((a_n : Nat) : Int))) (Ab a (fun d4 => (0 ≤ n2 ∧ n2 < (a_n : Nat)) ∧ ∃ n5, w3.cell? (Addr.add d4 (n2.toNat * 1)) = some (.int .i64 n5) ∧ Ab b (fun d6 => (0 ≤ n2 ∧ n2 < (b_n : Nat)) ∧ ∃ n7, w3.cell? (Addr.add d6 (n2.toNat * 1)) = some (.int .i64 n7) ∧ ∀ w8, Grew w3 w8 → ifB (n5 != n7) (R (.returned (.bool false)) w8) ((I1 (IntKind.i64.wrap (n2 + 1)) w8 ∧ m1 (IntKind.i64.wrap (n2 + 1)) w8 < m1 n2 w3))))) (R (.returned (.bool true)) w3))
theorem sx103.ok {a : Option Addr} {a_n a_c : Nat} {b : Option Addr} {b_n b_c : Nat} {R : Ending → World → Prop} {w : World} (h : sx103 a a_n a_c b b_n b_c R w) : Aa Tryz.prog 103 [.slice a a_n a_c, .slice b b_n b_c] w R :=
 okOf { loops := [(4, { slots := [(5, .int .i64)], cells := [] })] } mix Tryz.func103 (by kernel_rfl) (by kernel_rfl) (by kernel_rfl) h
def sx61 (l : Option Addr) (l_n l_c : Nat) (R : Ending → World → Prop) (w : World) : Prop :=
 ∀ b1 w2, Ag w w2 b1 (.cells #[] 3) → SemW Tryz.prog (Builtin.append_ #[44, 44] 44 #[.slice (some ⟨b1, 0, none⟩) 0 0, .slice l l_n l_c]) (fun u4 w3 => ∃ a5 l5 c5, u4 = .slice a5 l5 c5 ∧ R (.returned (.slice a5 l5 c5)) w3) w2
theorem sx61.ok {l : Option Addr} {l_n l_c : Nat} {R : Ending → World → Prop} {w : World} (h : sx61 l l_n l_c R w) : Aa Tryz.prog 61 [.slice l l_n l_c] w R :=
 okOf { sem := [7] } mix Tryz.func61 (by kernel_rfl) (by kernel_rfl) (by kernel_rfl) h
def sx62 (l : Option Addr) (l_n l_c : Nat) (R : Ending → World → Prop) (w : World) : Prop :=
 ∃ (I1 : Int → Int → World → Prop) (m1 : Int → Int → World → Nat), I1 0 0 w ∧ ∀ n2 n3 w4, I1 n2 n3 w4 → ifB (decide (n3 < ((l_n : Nat) : Int))) (Ab l (fun d5 => (0 ≤ n3 ∧ n3 < (l_n : Nat)) ∧ ∃ b6, w4.cell? (Addr.add d5 (n3.toNat * 1)) = some (.bool b6) ∧ ifB b6 ((I1 (IntKind.i64.wrap (n2 + 1)) (IntKind.i64.wrap (n3 + 1)) w4 ∧ m1 (IntKind.i64.wrap (n2 + 1)) (IntKind.i64.wrap (n3 + 1)) w4 < m1 n2 n3 w4)) ((I1 n2 (IntKind.i64.wrap (n3 + 1)) w4 ∧ m1 n2 (IntKind.i64.wrap (n3 + 1)) w4 < m1 n2 n3 w4)))) (R (.returned (.int .i64 n2)) w4)
theorem sx62.ok {l : Option Addr} {l_n l_c : Nat} {R : Ending → World → Prop} {w : World} (h : sx62 l l_n l_c R w) : Aa Tryz.prog 62 [.slice l l_n l_c] w R :=
 okOf { loops := [(3, { slots := [(3, .int .i64), (4, .int .i64)], cells := [] })] } mix Tryz.func62 (by kernel_rfl) (by kernel_rfl) (by kernel_rfl) h
def sx22 (w0 : Nat) (R : Ending → World → Prop) (w : World) : Prop :=
 ∀ b1 w2, Ag w w2 b1 (.cells #[] 74) → ∃ (I3 : Option Addr → Nat → Nat → Int → World → Prop) (m3 : Option Addr → Nat → Nat → Int → World → Nat), I3 (some ⟨b1, 0, none⟩) 0 0 0 w2 ∧ ∀ a4 l4 c4 n5 w6, I3 a4 l4 c4 n5 w6 → ∃ a7 l7 c7, w6.cell? ⟨w0, 9, none⟩ = some (.slice a7 l7 c7) ∧ ifB (decide (n5 < ((l7 : Nat) : Int))) (∃ a8 l8 c8, w6.cell? ⟨w0, 9, none⟩ = some (.slice a8 l8 c8) ∧ Ab a8 (fun d9 => (0 ≤ n5 ∧ n5 < (l8 : Nat)) ∧ ∃ n10 n11 a12 l12 c12 a13 l13 c13 b14 a15 l15 c15, Ae w6 (Addr.add d9 (n5.toNat * 6)) 0 [.int .i64 n10, .int .i64 n11, .slice a12 l12 c12, .slice a13 l13 c13, .bool b14, .slice a15 l15 c15] ∧ ∀ w16, Grew w6 w16 → ∀ w17, Grew w16 w17 → Aa Tryz.prog 61 [.slice a12 l12 c12] w17 (RetR R fun u19 w18 => ∃ a20 l20 c20, u19 = .slice a20 l20 c20 ∧ Ad w17 w18 [] ∧ Aa Tryz.prog 62 [.slice a15 l15 c15] w18 (RetR R fun u23 w22 => ∃ n24, u23 = .int .i64 n24 ∧ Ad w18 w22 [] ∧ ∀ b26 w27, Ag w22 w27 b26 (.cells #[.int .i64 n10, .int .i64 n11, .slice a20 l20 c20, .bool b14, .int .i64 n24] 74) → SemW Tryz.prog (Builtin.append_ #[59, 59] 59 #[.slice a4 l4 c4, .slice (some ⟨b26, 0, none⟩) 1 1]) (fun u29 w28 => ∃ a30 l30 c30, u29 = .slice a30 l30 c30 ∧ (I3 a30 l30 c30 (IntKind.i64.wrap (n5 + 1)) w28 ∧ m3 a30 l30 c30 (IntKind.i64.wrap (n5 + 1)) w28 < m3 a4 l4 c4 n5 w6)) w27)))) (R (.returned (.slice a4 l4 c4)) w6)
theorem sx22.ok {w0 : Nat} {R : Ending → World → Prop} {w : World} (h : sx22 w0 R w) : Aa Tryz.prog 22 [.pointer (some ⟨w0, 0, none⟩)] w R :=
 okOf { locals := [5], known := [8], sem := [42], draws := [(6, { order := (ol [0,1,2,3,4,5,6,8,9,10,11,7,12,13,14,15,16] .nil), bars := [14, 15] })], loops := [(3, { slots := [(3, .slice), (4, .int .i64)], cells := [] })] } mix Tryz.func22 (by kernel_rfl) (by kernel_rfl) (by kernel_rfl) h
theorem Aca {a b : Option Addr} {n c m d : Nat} {l r : List Int} {w : World} (hr : Reads w (Enc.int .i64) (a, n, c) l) (hi : Reads w (Enc.int .i64) (b, m, d) r) (hl : l.length ≤ 9223372036854775806) :
  Aa Tryz.prog 103 [.slice a n c, .slice b m d] w (Rets fun u w' => u = .bool (decide (l = r)) ∧ Grew w w') := by
 refine sx103.ok ?_
 unfold sx103
 have hn : n = l.length := hr.2.1
 subst hn
 have hm : m = r.length := hi.2.1
 subst hm
 refine ⟨fun hne => ⟨_, rfl, ?_, Grew.refl _⟩, fun heq => ?_⟩
 ·have : ¬ l = r := fun e => by rw [e] at hne; simp at hne
  rw [decide_eq_false this]
 have hlen : l.length = r.length := by simp at heq; omega
 refine ⟨fun i w' => ∃ k : Nat, i = k ∧ k ≤ l.length ∧ l.take k = r.take k ∧ Grew w w', fun i _ => l.length - i.toNat, ⟨0, rfl, Nat.zero_le _, rfl, Grew.refl _⟩, ?_⟩
 rintro n2 w3 ⟨k, rfl, hk, hall, hg3⟩
 refine ⟨fun hlt => ?_, fun hge => ?_⟩
 ·simp only [decide_eq_true_eq] at hlt
  obtain ⟨d1, e, rfl, he, hc⟩ := (hr.grew hg3).at0 (k := k) (by omega)
  obtain ⟨d2, f, rfl, hf, hc2⟩ := (hi.grew hg3).at0 (k := k) (by omega)
  have hw : IntKind.i64.wrap ((k : Int) + 1) = ((k + 1 : Nat) : Int) := by rw [IntKind.wrap_i64]; omega
  refine ⟨⟨by omega, by omega⟩, _, Cc hc, ⟨by omega, by omega⟩, _, Cc hc2, fun w8 hg8 => ⟨fun hne => ⟨_, rfl, ?_, hg3.trans hg8⟩, fun h1 => ⟨⟨k + 1, hw, by omega, ?_, hg3.trans hg8⟩, by simp only [hw]; omega⟩⟩⟩
  ·have : ¬ l = r := fun e' => by rw [e', hf] at he; cases he; simp at hne
   rw [decide_eq_false this]
  ·have : e = f := by simpa using h1
   rw [Ak he, Ak hf, hall, this]
 ·simp only [decide_eq_false_iff_not] at hge
  refine ⟨_, rfl, ?_, hg3⟩
  rw [List.take_of_length_le (by omega), List.take_of_length_le (by omega)] at hall
  rw [decide_eq_true hall]
abbrev rwT : Jj := ⟨107, 79, 144, 3, 46, 83, 4⟩
theorem Lt : rwT.Ok := ⟨by decide, by decide, by decide, by decide, by decide, by decide, by decide, by decide, by decide, by decide, by decide, by decide, by decide, by decide, by decide⟩
abbrev RWA := Bh rwT
abbrev RWM := Bj rwT
def plR (X : An) (V : Ac) : Plan := ⟨V.plan, X.o⟩
theorem Acb {w : World} {B : Nat} {X : An} {V : Ac} (h : RWA w B X V) : (plR X V).At w ∧ Ae w ⟨X.q, 0, none⟩ 0 (plR X V).vals := ⟨h.ops.reads, h.row.at 0 8⟩
theorem Acc {w : World} {B : Nat} {X : An} {V : Ac} (h : RWA w B X V) : w.cell? ⟨X.q, 8, none⟩ = some (.int .i64 V.node) := by rw [h.row.cell]; rfl
theorem Cf {w : World} {B : Nat} {X : An} {V : Ac} (h : RWA w B X V) : w.cell? ⟨X.q, 9, none⟩ = some (.slice X.l.1 X.l.2.1 X.l.2.2) := by rw [h.row.cell]; rfl
theorem P4 {w : World} {B : Nat} {X : An} {V : Ac} (h : RWA w B X V) : w.cell? ⟨X.q, 1, none⟩ = some (.int .i64 V.plan.stores) := by rw [h.row.cell]; rfl
theorem Rh {w : World} {B : Nat} {X : An} {V : Ac} (h : RWA w B X V) : w.cell? ⟨X.q, 2, none⟩ = some (.int .i64 V.plan.workers) := by rw [h.row.cell]; rfl
theorem Afj {w : World} {B : Nat} {X : An} {V : Ac} (h : RWA w B X V) : X.hs.length ≤ maxLen := by
 have := h.list.len
 rcases h.list.row with ⟨-, hl, -, -⟩ | ⟨g, cs, -, -, -, hn, hnc, hc, -⟩
 ·rw [hl]; simp
 ·omega
theorem C9 {w : World} {d : Addr} {k : Nat} {x : A7} (h : Ae w (d.add (k * Enc.rheld.sz)) 0 (Enc.rheld.f x)) :
  w.cell? (Addr.add d (((k : Nat) : Int).toNat * 6)) = some (.int .i64 x.c.batch) ∧ w.cell? (Addr.add (Addr.add d (((k : Nat) : Int).toNat * 6)) 1) = some (.int .i64 x.c.att) ∧ w.cell? (Addr.add (Addr.add d (((k : Nat) : Int).toNat * 6)) 2) = some (.slice x.e.1 x.e.2.1 x.e.2.2) ∧
  w.cell? (Addr.add (Addr.add d (((k : Nat) : Int).toNat * 6)) 3) = some (.slice x.d.1 x.d.2.1 x.d.2.2) ∧ w.cell? (Addr.add (Addr.add d (((k : Nat) : Int).toNat * 6)) 4) = some (.bool x.c.begun) ∧ w.cell? (Addr.add (Addr.add d (((k : Nat) : Int).toNat * 6)) 5) = some (.slice x.p.1 x.p.2.1 x.p.2.2) := by
 have h0 := Ai h 0 _ rfl
 have h1 := Ai h 1 _ rfl
 have h2 := Ai h 2 _ rfl
 have h3 := Ai h 3 _ rfl
 have h4 := Ai h 4 _ rfl
 have h5 := Ai h 5 _ rfl
 exact ⟨by simpa [Enc.rheld, Addr.add_zero'] using h0, by simpa [Enc.rheld] using h1, by simpa [Enc.rheld] using h2, by simpa [Enc.rheld] using h3, by simpa [Enc.rheld] using h4, by simpa [Enc.rheld] using h5⟩
def Aek (w : World) (p : Bd) (node : Int) (v : Value) (w' : World) : Prop :=
 Grew w w' ∧ ((C0 p = false ∧ v = .tuple #[.pointer none, .int .i64 (Gj p)]) ∨ (C0 p = true ∧ Ax p node ≠ 2 ∧ v = .tuple #[.pointer none, .int .i64 170]) ∨
  (C0 p = true ∧ Ax p node = 2 ∧ ∃ X, v = .tuple #[.pointer (some ⟨X.q, 0, none⟩), .int .i64 0] ∧ RWA w' w.heap.size X ⟨p, node, []⟩))
theorem Acd {x : Plan} {node : Int} {w : World} (hx : x.At w) (hf : ∀ o ∈ x.c.ops, o.Fits) : Aa Tryz.prog 10 [x.val, .int .i64 node] w (Rets (Aek w x.c node)) := by
 refine sx10.ok ?_
 unfold sx10
 intro w1 hg1
 refine (Kw (hx.grew hg1)).use fun v w2 ⟨hv, hg2⟩ => ?_
 subst hv
 have hg2 := hg1.trans hg2
 refine ⟨_, rfl, fun h => ⟨_, rfl, hg2, .inl ⟨?_, rfl⟩⟩, fun h => ?_⟩
 ·cases hc : C0 x.c with
  | false => rfl
  | true => rw [Ci.2 hc] at h; simp at h
 have hgd : C0 x.c = true := Ci.1 (by simpa using h)
 have hG := C1.1 hgd
 refine (Rc (n := node) (hx.grew hg2)).use fun v w6 ⟨hv, hg6⟩ => ?_
 subst hv
 have hg6 := hg2.trans hg6
 refine ⟨_, rfl, fun h2 => ⟨_, rfl, hg6, .inr (.inl ⟨hgd, by simpa using h2, rfl⟩)⟩, fun h2 b10 w11 hal11 => ?_⟩
 have hk2 : Ax x.c node = 2 := by simpa using h2
 have hlen := (Cu hG.ops).1
 have ho11 : Own w11 w6.heap.size 79 Enc.op3 (some ⟨b10, 0, none⟩) 0 0 [] := Own.alloc (l := []) hal11 (Nat.le_refl _) rfl (by simp [maxLen])
 have hx11 := hx.grew (hg6.trans hal11.grew)
 refine B5 elOp ho11 hx11.1 hx11.2.1 hx11.2.2.1 hal11.grew.size (by simp only [maxLen, List.length_nil]; omega) (by simp; omega) ?_
 rintro v w12 ⟨a14, l14, c14, rfl, ho12, hu12, hb12⟩
 rw [List.nil_append] at ho12
 have hg12 : Grew w6 w12 := hal11.grew.then_own hu12 fun b hb => (ho11.blk hb).1
 refine ⟨_, _, _, rfl, fun b15 w16 hal16 => ⟨_, rfl, ?_⟩⟩
 have hg16 := hg6.trans (hg12.trans hal16.grew)
 have s6 := hg6.size; have s12 := hg12.size; have n16 := hal16.new
 refine ⟨hg16, .inr (.inr ⟨hgd, hk2, ⟨b15, (a14, l14, c14), (none, 0, 0), []⟩, rfl, ⟨hal16.at_, (ho12.grew hal16.grew).base hg6.size, Own.nil _ _ _ _, (by show ([] : List G7) = _; unfold Ac.rows Ac.keyS B3; simp), fun q hq => (by simp at hq), fun i j x y _ h => (by simp at h), (by simp only; omega), List.nodup_nil, ⟨hG, hf, Q2 hgd (by rw [hk2]; decide), fun q hq => (by simp at hq), fun q hq => (by simp at hq)⟩⟩⟩)⟩
theorem Ri {w : World} {B : Nat} {X : An} {V : Ac} {k : Int} (h : RWA w B X V) : Aa Tryz.prog 97 [.pointer (some ⟨X.q, 0, none⟩), .int .i64 k] w (Rets fun u w' => ∃ i : Nat, u = .int .i64 (i : Int) ∧ V.Place k i ∧ w' = w) := by
 refine sx97.ok ?_
 unfold sx97
 obtain ⟨hkl, hll⟩ := h.len
 have hmax := Afj h
 simp only [maxLen] at hmax
 refine ⟨fun i w' => w' = w ∧ ∃ j : Nat, i = j ∧ j ≤ X.hs.length ∧ ∀ x ∈ V.keyS.take j, x < k, fun i _ => X.hs.length - i.toNat, ⟨rfl, 0, rfl, Nat.zero_le _, by simp⟩, ?_⟩
 rintro n2 w3 ⟨rfl, j, rfl, hj, hlo⟩
 refine ⟨_, _, _, Cf h, fun hlt => ⟨_, _, _, Cf h, ?_⟩, fun hge => ?_⟩
 ·simp only [decide_eq_true_eq] at hlt
  have hw : IntKind.i64.wrap ((j : Int) + 1) = ((j + 1 : Nat) : Int) := by rw [IntKind.wrap_i64]; omega
  obtain ⟨d, x, hd, hx, hc⟩ := h.list.reads.at0 (k := j) (by omega)
  have hkey := (h.get hx).1
  rw [hd, Ab]
  refine ⟨⟨by omega, by omega⟩, _, (C9 hc).1, fun hlt2 => ?_, fun hge2 => ⟨_, rfl, j, rfl, ⟨by omega, hlo, fun y hy => ?_⟩, rfl⟩⟩
  ·simp only [decide_eq_true_eq] at hlt2
   refine ⟨⟨rfl, j + 1, hw, by omega, fun y hy => ?_⟩, by simp only [hw]; omega⟩
   rw [Ak hkey, List.mem_append, List.mem_singleton] at hy
   rcases hy with hy | rfl
   ·exact hlo y hy
   ·exact hlt2
  ·simp only [decide_eq_false_iff_not] at hge2
   rw [hkey] at hy; cases hy; omega
 ·simp only [decide_eq_false_iff_not] at hge
  exact ⟨_, rfl, j, rfl, ⟨by omega, hlo, fun y hy => by have := (List.getElem?_eq_some_iff.1 hy).1; omega⟩, rfl⟩
def Ace (w : World) (X : An) (V : Ac) (m : MsgV) (u : Value) (w' : World) : Prop := Grew w w' ∧ ((V.find m = none ∧ u = .int .i64 (-1)) ∨ ∃ (i : Nat) (x : A7) (a : AttV), u = .int .i64 (i : Int) ∧ X.hs[i]? = some x ∧ x.c.batch = m.batch ∧ getM V.held m.batch = some a ∧ V.find m = some a ∧ x.c = Cd V.plan m.batch a)
theorem Uc {w : World} {B : Nat} {X : An} {V : Ac} {m : Msg} (h : RWA w B X V) : Aa Tryz.prog 102 [.pointer (some ⟨X.q, 0, none⟩), m.val] w (Rets (Ace w X V m.c)) := by
 refine sx102.ok ?_
 unfold sx102
 intro w1 hg1
 have h1 := h.grew hg1
 obtain ⟨hkl, hll⟩ := h1.len
 refine (Ri h1).use fun u w2 ⟨i, hv, hp, hw⟩ => ?_
 subst hv; subst hw
 have no : ∀ {w' : World}, Grew w2 w' → V.find m.c = none → Rets (Ace w X V m.c) (.returned (.int .i64 (-1))) w' := fun hg hn => ⟨_, rfl, hg1.trans hg, .inl ⟨hn, rfl⟩⟩
 have away : V.keyS[i]? ≠ some m.c.batch → V.find m.c = none := fun hne => by
  unfold Ac.find
  cases hg : getM V.held m.c.batch with
  | none => rfl
  | some a => exact (hne (hp.there h1.nd hg)).elim
 refine ⟨_, rfl, _, _, _, Cf h1, fun hlt => ⟨_, _, _, Cf h1, ?_⟩, fun hge w15 hg15 => no hg15 (away fun e => ?_)⟩
 ·simp only [decide_eq_true_eq] at hlt
  obtain ⟨d, x, hd, hx, hc⟩ := h1.list.reads.at0 (k := i) (by omega)
  obtain ⟨hkey, a, ha, hxa⟩ := h1.get hx
  obtain ⟨c0, c1, -⟩ := C9 hc
  rw [hd, Ab]
  refine ⟨⟨by omega, by omega⟩, _, c0, fun heq => ⟨_, _, _, by rw [Cf h1, hd], ?_⟩, fun hne w14 hg14 => no hg14 (away fun e => ?_)⟩
  ·have heq : x.c.batch = m.c.batch := by simpa using heq
   rw [heq] at ha hxa
   have hatt : x.c.att = a.number := by rw [hxa]; rfl
   rw [Ab]
   refine ⟨⟨by omega, by omega⟩, _, c1, fun w13 hg13 => ⟨fun he => ?_, fun he => no hg13 ?_⟩⟩
   ·have he : a.number = m.c.att := by rw [← hatt]; simpa using he
    exact ⟨_, rfl, hg1.trans hg13, .inr ⟨i, x, a, rfl, hx, heq, ha, by unfold Ac.find; rw [ha]; simp [he], hxa⟩⟩
   ·have he : ¬ a.number = m.c.att := by rw [← hatt]; simpa using he
    unfold Ac.find; rw [ha]; simp [he]
  ·rw [hkey] at e
   simp at hne; exact hne (Option.some.inj e)
 ·simp only [decide_eq_false_iff_not] at hge
  have := (List.getElem?_eq_some_iff.1 e).1
  omega
theorem Lu {w : World} {B : Nat} {X : An} {V : Ac} {m : Msg} {kind to : Int} (h : RWA w B X V) : Aa Tryz.prog 101 [.pointer (some ⟨X.q, 0, none⟩), .int .i64 kind, .int .i64 to, m.val] w
  (Rets fun u w' => u = .agg #[.int .i64 kind, .int .i64 V.node, .int .i64 to, .int .i64 m.c.batch, .int .i64 m.c.att, .int .i64 0, .slice none 0 0, .slice none 0 0, .slice none 0 0] ∧ Grew w w') := by
 refine sx101.ok ?_
 unfold sx101
 intro w1 hg1 w2 hg2 w3 hg3
 have hg := hg1.trans (hg2.trans hg3)
 exact ⟨_, Acc (h.grew hg), _, rfl, rfl, hg⟩
theorem Mo {a : Option Addr} {n c : Nat} {l : List Int} {w : World} (hr : Reads w (Enc.int .i64) (a, n, c) l) (hl : l.length * 8 ≤ 140737488355328) : Aa Tryz.prog 61 [.slice a n c] w (Rets (Dk w 3 (Enc.int .i64) l)) := by
 refine sx61.ok ?_
 unfold sx61
 intro b w1 hal
 have ho : Own w1 w.heap.size 3 (Enc.int .i64) (some ⟨b, 0, none⟩) 0 0 [] := Own.alloc (l := []) hal (Nat.le_refl _) rfl (by simp [maxLen])
 have hr1 := hr.grew hal.grew
 refine B5 elCI ho hr1.1 hr1.2.1 hr1.2.2.1 hal.grew.size (by simp only [maxLen, List.length_nil]; omega) (by simpa using hl) ?_
 rintro v w2 ⟨a2, n2, c2, rfl, ho2, hu2, hb2⟩
 exact ⟨_, _, _, rfl, _, rfl, a2, n2, c2, rfl, by simpa using ho2, hal.grew.then_own hu2 fun b hb => (ho.blk hb).1⟩
theorem Ud {a : Option Addr} {n c : Nat} {l : List Bool} {w : World} (hr : Reads w Enc.boolE (a, n, c) l) (hl : l.length ≤ 1048576) : Aa Tryz.prog 62 [.slice a n c] w (Rets fun u w' => u = .int .i64 ((l.countP id : Nat) : Int) ∧ w' = w) := by
 refine sx62.ok ?_
 unfold sx62
 have hn : n = l.length := hr.2.1
 subst hn
 refine ⟨fun q i w' => w' = w ∧ ∃ k : Nat, i = k ∧ k ≤ l.length ∧ q = (((l.take k).countP id : Nat) : Int), fun _ i _ => l.length - i.toNat, ⟨rfl, 0, rfl, Nat.zero_le _, by simp⟩, ?_⟩
 rintro q i w4 ⟨rfl, k, rfl, hk, rfl⟩
 have hcl : (l.take k).countP id ≤ k := Nat.le_trans List.countP_le_length (by rw [List.length_take]; omega)
 refine ⟨fun hlt => ?_, fun hge => ?_⟩
 ·simp only [decide_eq_true_eq] at hlt
  have hw : IntKind.i64.wrap ((k : Int) + 1) = ((k + 1 : Nat) : Int) := by rw [IntKind.wrap_i64]; omega
  have hw2 : IntKind.i64.wrap ((((l.take k).countP id : Nat) : Int) + 1) = (((l.take k).countP id + 1 : Nat) : Int) := by rw [IntKind.wrap_i64]; omega
  obtain ⟨d, y, hd, hy, hc⟩ := hr.at0 (k := k) (by omega)
  have hc0 := Ai hc 0 _ rfl
  have hc0' : w4.cell? (Addr.add d (((k : Nat) : Int).toNat * 1)) = some (.bool y) := by simpa [Enc.boolE, Addr.add_zero'] using hc0
  rw [hd, Ab]
  refine ⟨⟨by omega, by omega⟩, _, hc0', fun hy1 => ⟨⟨rfl, k + 1, hw, by omega, ?_⟩, by simp only [hw]; omega⟩, fun hy0 => ⟨⟨rfl, k + 1, hw, by omega, ?_⟩, by simp only [hw]; omega⟩⟩
  ·rw [hw2, Ak hy, List.countP_append, hy1]; rfl
  ·rw [Ak hy, List.countP_append, hy0]; rfl
 ·simp only [decide_eq_false_iff_not] at hge
  have hkn : k = l.length := by omega
  subst hkn
  exact ⟨_, rfl, by rw [List.take_length], rfl⟩
set_option maxHeartbeats 1000000 in
theorem Y9 {w : World} {B : Nat} {X : An} {V : Ac} (h : RWA w B X V) (hl : V.held.length ≤ 1048576) :
  Aa Tryz.prog 22 [.pointer (some ⟨X.q, 0, none⟩)] w (Rets (Aei w V.tell)) := by
 refine sx22.ok ?_
 unfold sx22
 obtain ⟨hkl, hll⟩ := h.len
 have hkv : V.keyS.length = V.held.length := by unfold Ac.keyS; rw [(Bf _).length_eq, List.length_map]
 have nb : ∀ {x y : World}, Ad x y [] := by intro x y; simp [Ad]
 intro b1 w2 hal2
 have ho2 : Own w2 w.heap.size 74 Enc.held (some ⟨b1, 0, none⟩) 0 0 [] := Own.alloc (l := []) hal2 (Nat.le_refl _) rfl (by simp [maxLen])
 refine ⟨fun a n c i w' => ∃ (k : Nat) (hs : List Hp), i = k ∧ k ≤ V.held.length ∧ HO w' w.heap.size a n c hs ∧ hs.map (·.c) = V.tell.take k ∧ Grew w w', fun _ _ _ i _ => V.held.length - i.toNat, ⟨0, [], rfl, Nat.zero_le _, ⟨ho2, fun x hx => (by simp at hx)⟩, by simp, hal2.grew⟩, ?_⟩
 rintro a4 l4 c4 n5 w6 ⟨k, hs, rfl, hk, hO, hhs, hg6⟩
 have hhl : hs.length = k := by have := congrArg List.length hhs; simp [Ac.tell_len] at this; omega
 have h6 := h.grew hg6
 refine ⟨_, _, _, Cf h6, fun hlt => ⟨_, _, _, Cf h6, ?_⟩, fun hge => ?_⟩
 ·simp only [decide_eq_true_eq] at hlt
  have hw : IntKind.i64.wrap ((k : Int) + 1) = ((k + 1 : Nat) : Int) := by rw [IntKind.wrap_i64]; omega
  obtain ⟨d, x, hd, hx, hc⟩ := h6.list.reads.at0 (k := k) (by omega)
  obtain ⟨hkey, a, ha, hxa⟩ := h6.get hx
  have hxm := List.mem_of_getElem? hx
  have htell := Ac.tell_get hkey
  rw [ha] at htell
  have hok := h6.ok.atts _ (Cm ha)
  have hE : a.ends.length ≤ 4 := hok.ends.1
  have hxe : x.c.ends = a.ends := by rw [hxa]; rfl
  have hxp : x.c.applied = appB V.plan a.applied := by rw [hxa]; rfl
  have hS := h6.ok.good.stores
  rw [hd, Ab]
  refine ⟨⟨by omega, by omega⟩, _, _, _, _, _, _, _, _, _, _, _, _, hc, fun w16 hg16 w17 hg17 => ?_⟩
  have hg17' := hg16.trans hg17
  have hH := (h6.each x hxm).grew hg17'
  refine (Mo hH.ends.reads (by rw [hxe]; omega)).use fun u w18 ⟨a20, l20, c20, hv, ho20, hg18⟩ => ?_
  subst hv
  refine ⟨_, _, _, rfl, nb, (Ud (hH.grew hg18).app.reads (by rw [hxp, Ji]; omega)).use fun u w22 ⟨hv, hw'⟩ => ?_⟩
  subst hv; subst hw'
  refine ⟨_, rfl, nb, fun b26 w27 hal27 => ?_⟩
  rw [hxe] at ho20
  let z : Hp := ⟨Ml x.c.batch a, (a20, l20, c20)⟩
  have hgz := hg17'.trans hg18
  have hO29 := hO.grew hgz
  have hB := (hg6.trans hgz).size
  have hcount : x.c.applied.countP id = a.applied.length := by rw [hxp]; exact Rb hok.app.1 hok.app.2
  refine Bc (l2 := [z]) Aby hO29.own hal27 (by
   have e1 : x.c.att = a.number := by rw [hxa]; rfl
   have e2 : x.c.begun = a.begun := by rw [hxa]; rfl
   simp [Enc.held, z, Ml, e1, e2, hcount]) rfl hB (by simp only [maxLen, List.length_singleton]; omega) (by simp only [List.length_singleton]; omega) ?_
  rintro v39 w38 ⟨a40, l40, c40, rfl, ho40, hu40, hb40⟩
  have hz : Own w22 w.heap.size 3 (Enc.int .i64) a20 l20 c20 a.ends := ho20.base (hg6.trans hg17').size
  have keep : ∀ {a n c} {l : List Int}, Own w22 w.heap.size 3 (Enc.int .i64) a n c l → Own w38 w.heap.size 3 (Enc.int .i64) a n c l := fun ho => ho.upd hu40 fun b hb hb' => own_ne ho hO29.own (by decide) b hb hb'
  refine ⟨_, _, _, rfl, ⟨k + 1, hs ++ [z], hw, by omega, ⟨ho40, fun y hy => ?_⟩, ?_, (hg6.trans hgz).then_own hu40 fun b hb => (hO29.own.blk hb).1⟩, by simp only [hw]; omega⟩
  ·rcases List.mem_append.1 hy with hy | hy
   ·exact keep (hO29.each y hy)
   ·simp at hy; subst hy; exact keep hz
  ·rw [List.map_append, hhs, Ak htell]; rfl
 ·simp only [decide_eq_false_iff_not] at hge
  have hkn : k = V.held.length := by omega
  subst hkn
  rw [List.take_of_length_le (by rw [Ac.tell_len]; omega)] at hhs
  exact ⟨_, rfl, _, _, _, hs, rfl, hO, hhs, hg6⟩
end Go.Proofs.YtcpkneemhfnanaaGreat
