/- The reference's worker: a message comes. Conditions: none. -/
import Derived.Test.YtcpkneemhfnanaaGreatProg
import Derived.Test.YtcpkneemhfnanaaGreatRWorkD
import Derived.Test.YtcpkneemhfnanaaGreatSrcR
import Derived.Test.YtcpkneemhfnanaaGreatSxX
namespace Go.Proofs.YtcpkneemhfnanaaGreat
open Go.Sx
set_option maxRecDepth 100000
set_option linter.unusedVariables false
set_option linter.unusedSimpArgs false
def sx14 (d i : Nat) (p2_0 p2_1 p2_2 p2_3 p2_4 p2_5 : Int) (p2_6 : Option Addr) (p2_6_n p2_6_c : Nat) (p2_7 : Option Addr) (p2_7_n p2_7_c : Nat) (p2_8 : Option Addr) (p2_8_n p2_8_c : Nat) (R : Ending → World → Prop) (w : World) : Prop :=
 ∀ w1, Grew w w1 → Aa Tryz.prog 48 [.agg #[.int .i64 p2_0, .int .i64 p2_1, .int .i64 p2_2, .int .i64 p2_3, .int .i64 p2_4, .int .i64 p2_5, .slice p2_6 p2_6_n p2_6_c, .slice p2_7 p2_7_n p2_7_c, .slice p2_8 p2_8_n p2_8_c]] w1 (RetR R fun u3 w2 => ∃ b4, u3 = .bool b4 ∧ ifB (!b4) (R (.returned (.tuple #[.slice none 0 0, .int .i64 150])) w2) (∃ n6, w2.cell? ⟨d, 8, none⟩ = some (.int .i64 n6) ∧ ∀ w7, Grew w2 w7 → ifB (p2_2 != n6) (R (.returned (.tuple #[.slice none 0 0, .int .i64 170])) w7) (∀ w8, Grew w7 w8 → ∃ n9 n10 n11 a12 l12 c12 n13 n14 n15 n16, Ae w8 ⟨d, 0, none⟩ 0 [.int .i64 n9, .int .i64 n10, .int .i64 n11, .slice a12 l12 c12, .int .i64 n13, .int .i64 n14, .int .i64 n15, .int .i64 n16] ∧ Aa Tryz.prog 41 [.agg #[.int .i64 n9, .int .i64 n10, .int .i64 n11, .slice a12 l12 c12, .int .i64 n13, .int .i64 n14, .int .i64 n15, .int .i64 n16], .int .i64 p2_1] w8 (RetR R fun u18 w17 => ∃ n19, u18 = .int .i64 n19 ∧ ∃ J21 : Bool → World → Prop, (ifB (p2_0 == 1) (J21 (n19 == 1) w17) (J21 false w17)) ∧ ∀ b22 w23, J21 b22 w23 → ifB b22 (Aa Tryz.prog 49 [.pointer (some ⟨d, 0, none⟩), .pointer (some ⟨i, 0, none⟩), .agg #[.int .i64 p2_0, .int .i64 p2_1, .int .i64 p2_2, .int .i64 p2_3, .int .i64 p2_4, .int .i64 p2_5, .slice p2_6 p2_6_n p2_6_c, .slice p2_7 p2_7_n p2_7_c, .slice p2_8 p2_8_n p2_8_c]] w23 (RetR R fun u25 w24 => ∃ a26 l26 c26, u25 = .slice a26 l26 c26 ∧ R (.returned (.tuple #[.slice a26 l26 c26, .int .i64 0])) w24)) (∃ J28 : Bool → World → Prop, (ifB (p2_0 == 3) (J28 (n19 == 1) w23) (J28 false w23)) ∧ ∀ b29 w30, J28 b29 w30 → ifB b29 (Aa Tryz.prog 50 [.pointer (some ⟨d, 0, none⟩), .agg #[.int .i64 p2_0, .int .i64 p2_1, .int .i64 p2_2, .int .i64 p2_3, .int .i64 p2_4, .int .i64 p2_5, .slice p2_6 p2_6_n p2_6_c, .slice p2_7 p2_7_n p2_7_c, .slice p2_8 p2_8_n p2_8_c]] w30 (RetR R fun u32 w31 => ∃ a33 l33 c33, u32 = .slice a33 l33 c33 ∧ R (.returned (.tuple #[.slice a33 l33 c33, .int .i64 0])) w31)) (ifB (p2_0 == 5) (ifB (n19 == 3) (Aa Tryz.prog 51 [.pointer (some ⟨d, 0, none⟩), .agg #[.int .i64 p2_0, .int .i64 p2_1, .int .i64 p2_2, .int .i64 p2_3, .int .i64 p2_4, .int .i64 p2_5, .slice p2_6 p2_6_n p2_6_c, .slice p2_7 p2_7_n p2_7_c, .slice p2_8 p2_8_n p2_8_c]] w30 (RetR R fun u36 w35 => ∃ a37 l37 c37, u36 = .slice a37 l37 c37 ∧ R (.returned (.tuple #[.slice a37 l37 c37, .int .i64 0])) w35)) (R (.returned (.tuple #[.slice none 0 0, .int .i64 0])) w30)) (ifB (p2_0 == 7) (ifB (n19 == 3) (Aa Tryz.prog 51 [.pointer (some ⟨d, 0, none⟩), .agg #[.int .i64 p2_0, .int .i64 p2_1, .int .i64 p2_2, .int .i64 p2_3, .int .i64 p2_4, .int .i64 p2_5, .slice p2_6 p2_6_n p2_6_c, .slice p2_7 p2_7_n p2_7_c, .slice p2_8 p2_8_n p2_8_c]] w30 (RetR R fun u40 w39 => ∃ a41 l41 c41, u40 = .slice a41 l41 c41 ∧ R (.returned (.tuple #[.slice a41 l41 c41, .int .i64 0])) w39)) (R (.returned (.tuple #[.slice none 0 0, .int .i64 0])) w30)) (R (.returned (.tuple #[.slice none 0 0, .int .i64 0])) w30))))))))
theorem sx14.ok {d i : Nat} {p2_0 p2_1 p2_2 p2_3 p2_4 p2_5 : Int} {p2_6 : Option Addr} {p2_6_n p2_6_c : Nat} {p2_7 : Option Addr} {p2_7_n p2_7_c : Nat} {p2_8 : Option Addr} {p2_8_n p2_8_c : Nat} {R : Ending → World → Prop} {w : World} (h : sx14 d i p2_0 p2_1 p2_2 p2_3 p2_4 p2_5 p2_6 p2_6_n p2_6_c p2_7 p2_7_n p2_7_c p2_8 p2_8_n p2_8_c R w) : Aa Tryz.prog 14 [.pointer (some ⟨d, 0, none⟩), .pointer (some ⟨i, 0, none⟩), .agg #[.int .i64 p2_0, .int .i64 p2_1, .int .i64 p2_2, .int .i64 p2_3, .int .i64 p2_4, .int .i64 p2_5, .slice p2_6 p2_6_n p2_6_c, .slice p2_7 p2_7_n p2_7_c, .slice p2_8 p2_8_n p2_8_c]] w R :=
 okOf { locals := [5], known := [10, 13], draws := [(7, { order := (ol [0,1,2,3,4,5,6,7] .nil), bars := [6] })], cuts := [(9, { slots := [(32, .bool)], cells := [] }), (11, { slots := [(44, .bool)], cells := [] })] } mix Tryz.func14 (by kernel_rfl) (by kernel_rfl) (by kernel_rfl) h
def Mq (w : World) (B : Nat) (X : An) (r : Nf) (u : Value) (w' : World) : Prop := ∃ a n c, u = .tuple #[.slice a n c, .int .i64 r.e] ∧ Kx w B X r.w r.l a n c w'
theorem P6 {w w1 w' : World} {B : Nat} {X : An} {r : Ac × List MsgV} {u : Value} (h : Rj w1 B X r u w') (hg : Grew w w1) : ∃ a n c, u = .slice a n c ∧ Rets (Mq w B X (.of r)) (.returned (.tuple #[.slice a n c, .int .i64 0])) w' := by
 obtain ⟨a, n, c, hu, hT⟩ := h
 exact ⟨a, n, c, hu, _, rfl, a, n, c, rfl, hT.pre hg⟩
theorem Zb {w : World} {B B2 : Nat} {X : An} {V : Ac} {m : Msg} {sx : Ch} {s : SrcV} (h : RWA w B X V) (hs : RSA w B2 sx s) (hm : m.At w) (hl1 : m.c.ends.length ≤ 9223372036854775806) (hl2 : m.c.keys.length ≤ 9223372036854775806) (hl3 : m.c.pairs.length ≤ 9223372036854775806) (hB : B ≤ w.heap.size) (hlen : V.held.length ≤ 100000) :
  Aa Tryz.prog 14 [.pointer (some ⟨X.q, 0, none⟩), .pointer (some ⟨sx.q, 0, none⟩), m.val] w (Rets (Mq w B X (V.take s m.c))) := by
 refine sx14.ok ?_
 unfold sx14
 intro w1 hg1
 refine (Vs (x := m) (hm.grew hg1) hl1 hl2 hl3).use fun u w2 ⟨hv, hg2⟩ => ?_
 subst hv
 have hg2 := hg1.trans hg2
 have nilT : ∀ {y : World} {e : Int}, V.take s m.c = ⟨V, [], e⟩ → Grew w y → Rets (Mq w B X (V.take s m.c)) (.returned (.tuple #[.slice none 0 0, .int .i64 e])) y := fun he hg => ⟨_, rfl, none, 0, 0, by rw [he], by rw [he]; exact Fa h hg⟩
 refine ⟨_, rfl, fun hs0 => nilT ?_ hg2, fun hs1 => ?_⟩
 ·have : Bl m.c = false := by simpa using hs0
  unfold Ac.take; rw [if_pos this]
 have hs1 : Bl m.c = true := by simpa using hs1
 have hsnd := (F1 _).1 hs1
 have hbat := hsnd.2.2.2.1
 have e1 : V.take s m.c = if m.c.to ≠ V.node then ⟨V, [], 170⟩ else if m.c.kind = 1 ∧ Ax V.plan m.c.frm = 1 then .of (V.assign s m.c) else if m.c.kind = 3 ∧ Ax V.plan m.c.frm = 1 then .of (V.begin m.c) else if (m.c.kind = 5 ∨ m.c.kind = 7) ∧ Ax V.plan m.c.frm = 3 then .of (V.answer m.c) else ⟨V, [], 0⟩ := by
  unfold Ac.take; rw [if_neg (by rw [hs1]; simp)]
 refine ⟨_, Acc (h.grew hg2), fun w7 hg7 => ⟨fun hto => nilT ?_ (hg2.trans hg7), fun hto w8 hg8 => ?_⟩⟩
 ·rw [e1, if_pos (by simpa using hto)]
 have hto : ¬ m.c.to ≠ V.node := by simpa using hto
 rw [if_neg hto] at e1
 have hg8 := hg2.trans (hg7.trans hg8)
 have h8 := h.grew hg8
 obtain ⟨hpA, hpC⟩ := Acb h8
 refine ⟨_, _, _, _, _, _, _, _, _, _, hpC, (Rc (x := plR X V) (n := m.c.frm) hpA).use fun u w17 ⟨hv, hg17⟩ => ?_⟩
 subst hv
 rw [show (plR X V).c = V.plan from rfl]
 have hg17 := hg8.trans hg17
 have h17 := h.grew hg17
 refine ⟨_, rfl, fun b w' => b = decide (m.c.kind = 1 ∧ Ax V.plan m.c.frm = 1) ∧ w' = w17, ⟨fun h1 => ?_, fun h1 => ?_⟩, ?_⟩
 ·have h1 : m.c.kind = 1 := by simpa using h1
  refine ⟨?_, rfl⟩; simp only [h1, true_and]; rfl
 ·have h1 : ¬ m.c.kind = 1 := by simpa using h1
  refine ⟨?_, rfl⟩; simp [h1]
 rintro b w23 ⟨rfl, rfl⟩
 refine ⟨fun ht => ?_, fun hf1 => ?_⟩
 ·have ht := of_decide_eq_true ht
  rw [if_pos ht] at e1
  refine (Vx (m := m) h17 (hs.grew hg17) (hm.grew hg17) hbat (Nat.le_trans hB hg17.size) hlen).use fun u w24 hT => ?_
  obtain ⟨a, n, c, hu, hR⟩ := P6 hT hg17
  rw [e1]; exact ⟨a, n, c, hu, hR⟩
 have hf1 := of_decide_eq_false hf1
 rw [if_neg hf1] at e1
 refine ⟨fun b w' => b = decide (m.c.kind = 3 ∧ Ax V.plan m.c.frm = 1) ∧ w' = w23, ⟨fun h1 => ?_, fun h1 => ?_⟩, ?_⟩
 ·have h1 : m.c.kind = 3 := by simpa using h1
  refine ⟨?_, rfl⟩; simp only [h1, true_and]; rfl
 ·have h1 : ¬ m.c.kind = 3 := by simpa using h1
  refine ⟨?_, rfl⟩; simp [h1]
 rintro b w30 ⟨rfl, rfl⟩
 refine ⟨fun ht => ?_, fun hf2 => ?_⟩
 ·have ht := of_decide_eq_true ht
  rw [if_pos ht] at e1
  refine (Ue (m := m) h17 (hm.grew hg17)).use fun u w24 hT => ?_
  obtain ⟨a, n, c, hu, hR⟩ := P6 hT hg17
  rw [e1]; exact ⟨a, n, c, hu, hR⟩
 have hf2 := of_decide_eq_false hf2
 rw [if_neg hf2] at e1
 have ans : Ax V.plan m.c.frm = 3 → (m.c.kind = 5 ∨ m.c.kind = 7) → Aa Tryz.prog 51 [.pointer (some ⟨X.q, 0, none⟩), m.val] w30 (RetR (Rets (Mq w B X (V.take s m.c))) fun u w' => ∃ a n c, u = .slice a n c ∧ Rets (Mq w B X (V.take s m.c)) (.returned (.tuple #[.slice a n c, .int .i64 0])) w') := fun h3 hk => by
  rw [if_pos ⟨hk, h3⟩] at e1
  refine (Si (m := m) h17 (Nat.le_trans hB hg17.size) hlen (hm.grew hg17) h3).use fun u w24 hT => ?_
  obtain ⟨a, n, c, hu, hR⟩ := P6 hT hg17
  rw [e1]; exact ⟨a, n, c, hu, hR⟩
 have no : ¬ ((m.c.kind = 5 ∨ m.c.kind = 7) ∧ Ax V.plan m.c.frm = 3) → Rets (Mq w B X (V.take s m.c)) (.returned (.tuple #[.slice none 0 0, .int .i64 0])) w30 := fun hn => nilT (by rw [e1, if_neg hn]) hg17
 refine ⟨fun h5 => ⟨fun h3 => ans (by simpa using h3) (.inl (by simpa using h5)), fun h3 => no fun hh => ?_⟩, fun h5 => ⟨fun h7 => ⟨fun h3 => ans (by simpa using h3) (.inr (by simpa using h7)), fun h3 => no fun hh => ?_⟩, fun h7 => no fun hh => ?_⟩⟩
 ·have : ¬ Ax V.plan m.c.frm = 3 := by simpa using h3
  exact this hh.2
 ·have : ¬ Ax V.plan m.c.frm = 3 := by simpa using h3
  exact this hh.2
 ·have h5 : ¬ m.c.kind = 5 := by simpa using h5
  have h7 : ¬ m.c.kind = 7 := by simpa using h7
  exact hh.1.elim h5 h7
theorem Afk : B4 Tryz.prog 45 40 (Enc.int .u64).sz 8 := B4.mk' (z := .int .u64 0) (by kernel_rfl) (by kernel_rfl) (by kernel_rfl)
theorem P7 {w : World} {d : Addr} {k : Nat} {x : Int} (h : Ae w (d.add (k * (Enc.int .u64).sz)) 0 ((Enc.int .u64).f x)) : w.cell? (Addr.add d (((k : Nat) : Int).toNat * 1)) = some (.int .u64 x) := by
 have := Ai h 0 _ rfl
 simpa [Enc.int, Addr.add_zero'] using this
def Ael (w : World) (B : Nat) (a : Option Addr) (l : List Int) (k : Int) (u : Value) (w' : World) : Prop :=
 ∃ (a' : Option Addr) (n' c' : Nat) (R : List Int), u = .slice a' n' c' ∧ Own w' B 40 (Enc.int .u64) a' n' c' R ∧ Upd (Blk a) w w' ∧ (∀ b, Blk a' b → Blk a b ∨ w.heap.size ≤ b) ∧ R.Pairwise (· < ·) ∧ (∀ x, x ∈ R ↔ x = k ∨ x ∈ l) ∧ R.length = if k ∈ l then l.length else l.length + 1
theorem W9 {w : World} {B : Nat} {a : Option Addr} {n c : Nat} {l : List Int} {k : Int} (ho : Own w B 40 (Enc.int .u64) a n c l) (hB : B ≤ w.heap.size) (hl : l.Pairwise (· < ·)) (hlen : l.length ≤ 2000) :
  Aa Tryz.prog 57 [.slice a n c, .int .u64 k] w (Rets (Ael w B a l k)) := by
 refine sx57.ok ?_
 unfold sx57
 have hn : n = l.length := ho.len
 subst hn
 have small : ∀ j : Nat, j ≤ 3000 → IntKind.i64.wrap ((j : Int) + 1) = ((j + 1 : Nat) : Int) := fun j hj => by rw [IntKind.wrap_i64]; omega
 -- the shifting up, and the key put in
 have tail : ∀ (j : Nat), j ≤ l.length → (∀ x ∈ l.take j, x < k) → (∀ x, l[j]? = some x → k < x) → ∀ (b : Nat) (w27 : World), Ag w w27 b (.cells #[.int .u64 0] 40) →
   SemW Tryz.prog (Builtin.append_ #[45, 45] 45 #[.slice a l.length c, .slice (some ⟨b, 0, none⟩) 1 1]) (fun u29 w28 => ∃ (a30 : Option Addr) (l30 c30 : Nat), u29 = .slice a30 l30 c30 ∧ ∀ n31 : Int,
    n31 = IntKind.i64.wrap (((l30 : Nat) : Int) - 1) → ∃ (I32 : Int → World → Prop) (m32 : Int → World → Nat), I32 n31 w28 ∧ ∀ (n33 : Int) (w34 : World), I32 n33 w34 → (((decide (n33 > (j : Int))) = true → Ab a30 (fun d35 =>
    (0 ≤ (IntKind.i64.wrap (n33 - 1)) ∧ (IntKind.i64.wrap (n33 - 1)) < (l30 : Nat)) ∧ ∃ (n36 : Int), w34.cell? (Addr.add d35 ((IntKind.i64.wrap (n33 - 1)).toNat * 1)) = some (.int .u64 n36) ∧ Ab a30 (fun d37 =>
    (0 ≤ n33 ∧ n33 < (l30 : Nat)) ∧ Af w34 (Addr.add d37 (n33.toNat * 1)) 0 [.int .u64 n36] ∧ ∀ w38, w38 = setCells w34 (Addr.add d37 (n33.toNat * 1)) 0 [.int .u64 n36] → (I32 (IntKind.i64.wrap (n33 - 1)) w38 ∧ m32
    (IntKind.i64.wrap (n33 - 1)) w38 < m32 n33 w34)))) ∧ ((decide (n33 > (j : Int))) = false → Ab a30 (fun d39 => (0 ≤ (j : Int) ∧ (j : Int) < (l30 : Nat)) ∧ Af w34 (Addr.add d39 ((j : Int).toNat * 1)) 0 [.int .u64 k] ∧ ∀ w40, w40 =
    setCells w34 (Addr.add d39 ((j : Int).toNat * 1)) 0 [.int .u64 k] → Rets (Ael w B a l k) (.returned (.slice a30 l30 c30)) w40)))) w27 := by
  intro j hj h1 h2 b w27 hal
  refine Bc (l2 := [0]) Afk ho hal rfl rfl hB (by simp [maxLen]; omega) (by simp; omega) ?_
  rintro u w28 ⟨a30, l30, c30, rfl, ho28, hu28, hb28⟩
  have hl30 : l30 = l.length + 1 := by rw [ho28.len]; simp
  subst hl30
  obtain ⟨g, rfl⟩ : ∃ g, a30 = some ⟨g, 0, none⟩ := by
   rcases ho28.out with ⟨-, h, -, -⟩ | ⟨g, cur, h, -⟩
   ·simp at h
   ·exact ⟨g, h⟩
  refine ⟨_, _, _, rfl, fun n31 h31 => ?_⟩
  have e31 : n31 = (l.length : Int) := by rw [h31, IntKind.wrap_i64]; omega
  have hgb : ∀ {w34 : World}, Upd (fun b => Blk a b ∨ b = g) w w34 → Upd (Blk a) w w34 := fun hu => hu.mono fun b hlt hb => by
   rcases hb with hb | rfl
   ·exact hb
   ·rcases hb28 b ⟨_, rfl, rfl⟩ with hb | hb
    ·exact hb
    ·omega
  refine ⟨fun i w34 => ∃ (m : Nat) (y : Int), i = m ∧ j ≤ m ∧ m ≤ l.length ∧ Own w34 B 40 (Enc.int .u64) (some ⟨g, 0, none⟩) (l.length + 1) c30 (l.take m ++ y :: l.drop m) ∧ Upd (fun b => Blk a b ∨ b = g) w w34, fun i _ => i.toNat, ⟨l.length, 0, e31, hj, Nat.le_refl _, by simpa using ho28, hu28.mono fun b _ hb => .inl hb⟩, ?_⟩
  rintro i w34 ⟨m, y, rfl, hjm, hm, ho34, hu34⟩
  have hlen34 : (l.take m ++ y :: l.drop m).length = l.length + 1 := by simp; omega
  refine ⟨fun hgt => ?_, fun hle => ?_⟩
  ·simp only [decide_eq_true_eq, gt_iff_lt] at hgt
   have e1 : IntKind.i64.wrap ((m : Int) - 1) = ((m - 1 : Nat) : Int) := by rw [IntKind.wrap_i64]; omega
   rw [e1]
   obtain ⟨d, x, hd, hx, hc⟩ := ho34.reads.at0 (k := m - 1) (by omega)
   cases hd
   have hx' : l[m - 1]? = some x := by
    rw [List.getElem?_append_left (by simp; omega), List.getElem?_take, if_pos (by omega)] at hx
    exact hx
   obtain ⟨g', hg', hR, hO, hU⟩ := ho34.set1 (i := m) (x := y) (x' := x) (v := .int .u64 x) (j := 0) (by
    rw [List.getElem?_append_right (by simp; omega)]
    simp [show m - min m l.length = 0 from by omega]) (by decide) (by simp [Enc.int])
   cases hg'
   have e : m * (Enc.int .u64).sz + 0 = m := by simp [Enc.int]
   rw [e] at hR hO hU
   have eset : (l.take m ++ y :: l.drop m).set m x = l.take (m - 1) ++ x :: l.drop (m - 1) := by
    have t1 : l.take m = l.take (m - 1) ++ [x] := by
     have := Ak hx'
     rwa [show m - 1 + 1 = m from by omega] at this
    have t2 : l.drop (m - 1) = x :: l.drop m := by
     have := Hg hx'
     rwa [show m - 1 + 1 = m from by omega] at this
    rw [List.set_append_right _ _ (by simp; omega), show m - (l.take m).length = 0 from by simp; omega]
    rw [t2, t1]; simp
   rw [eset] at hO
   rw [Ab]
   refine ⟨⟨by omega, by omega⟩, x, P7 hc, ?_⟩
   rw [Ab]
   simp only [Au, Nat.mul_one, Nat.zero_add, Int.toNat_natCast]
   refine ⟨⟨by omega, by omega⟩, hR, ?_⟩
   rintro w38 rfl
   refine ⟨⟨m - 1, x, rfl, by omega, by omega, hO, hu34.trans (hU.mono fun b _ hb => .inr hb)⟩, ?_⟩
   omega
  ·simp only [decide_eq_false_iff_not, gt_iff_lt] at hle
   have hmj : m = j := by omega
   subst hmj
   obtain ⟨g', hg', hR, hO, hU⟩ := ho34.set1 (i := m) (x := y) (x' := k) (v := .int .u64 k) (j := 0) (by
    rw [List.getElem?_append_right (by simp; omega)]
    simp [show m - min m l.length = 0 from by omega]) (by decide) (by simp [Enc.int])
   cases hg'
   have e : m * (Enc.int .u64).sz + 0 = m := by simp [Enc.int]
   rw [e] at hR hO hU
   have eset : (l.take m ++ y :: l.drop m).set m k = l.take m ++ k :: l.drop m := by
    rw [List.set_append_right _ _ (by simp; omega), show m - (l.take m).length = 0 from by simp; omega]; rfl
   rw [eset] at hO
   rw [Ab]
   simp only [Au, Nat.mul_one, Nat.zero_add, Int.toNat_natCast]
   refine ⟨⟨by omega, by omega⟩, hR, ?_⟩
   rintro w40 rfl
   obtain ⟨p1, p2, p3⟩ := Gg hl hj h1 h2
   refine ⟨_, rfl, _, _, _, _, rfl, hO, hgb (hu34.trans (hU.mono fun b _ hb => .inr hb)), hb28, p1, p2, ?_⟩
   rw [if_neg p3]; simp; omega
 refine ⟨fun i w' => ∃ j : Nat, i = j ∧ j ≤ l.length ∧ (∀ x ∈ l.take j, x < k) ∧ (∀ x, l[j]? = some x → k ≤ x) ∧ w' = w, ?_, ?_⟩
 ·refine ⟨fun i w' => ∃ j : Nat, i = j ∧ j ≤ l.length ∧ (∀ x ∈ l.take j, x < k) ∧ w' = w, fun i _ => l.length - i.toNat, ⟨0, rfl, Nat.zero_le _, by simp, rfl⟩, ?_⟩
  rintro i w4 ⟨j, rfl, hj, h1, rfl⟩
  refine ⟨fun hlt => ?_, fun hge => ?_⟩
  ·simp only [decide_eq_true_eq] at hlt
   obtain ⟨d, x, hd, hx, hc⟩ := ho.reads.at0 (k := j) (by omega)
   subst hd
   rw [Ab, small j (by omega)]
   refine ⟨⟨by omega, by omega⟩, x, P7 hc, fun hb => ?_, fun hb => ?_⟩
   ·simp only [decide_eq_true_eq] at hb
    refine ⟨⟨j + 1, rfl, by omega, ?_, rfl⟩, by show l.length - (((j + 1 : Nat) : Int)).toNat < l.length - ((j : Int)).toNat; omega⟩
    intro z hz
    rw [Ak hx, List.mem_append] at hz
    rcases hz with hz | hz
    ·exact h1 z hz
    ·simp at hz; subst hz; exact hb
   ·simp only [decide_eq_false_iff_not] at hb
    exact ⟨j, rfl, hj, h1, fun z hz => by rw [hx] at hz; cases hz; omega, rfl⟩
  ·simp only [decide_eq_false_iff_not] at hge
   exact ⟨j, rfl, hj, h1, fun z hz => by have := (List.getElem?_eq_some_iff.1 hz).1; omega, rfl⟩
 rintro i w8 ⟨j, rfl, hj, h1, h2, rfl⟩
 refine ⟨fun hlt => ?_, fun hge b26 w27 hal => ?_⟩
 ·simp only [decide_eq_true_eq] at hlt
  obtain ⟨d, x, hd, hx, hc⟩ := ho.reads.at0 (k := j) (by omega)
  subst hd
  rw [Ab]
  refine ⟨⟨by omega, by omega⟩, x, P7 hc, fun hb => ?_, fun hb b11 w12 hal => ?_⟩
  ·simp only [beq_iff_eq] at hb
   subst hb
   have hmem := List.mem_of_getElem? hx
   exact ⟨_, rfl, _, _, _, l, rfl, ho, Upd.refl _ _, fun b hb => .inl hb, hl, fun z => ⟨.inr, fun h => h.elim (fun e => e ▸ hmem) id⟩, by rw [if_pos hmem]⟩
  ·simp only [beq_eq_false_iff_ne, ne_eq] at hb
   exact tail j hj h1 (fun z hz => by have := h2 z hz; rw [hx] at hz; cases hz; omega) b11 w12 hal
 ·simp only [decide_eq_false_iff_not] at hge
  exact tail j hj h1 (fun z hz => by have := (List.getElem?_eq_some_iff.1 hz).1; omega) b26 w27 hal
theorem Acj {w : World} {B : Nat} {x : Ch} {v : SrcV} (h : RSA w B x v) :
  Aa Tryz.prog 56 [.pointer (some ⟨x.q, 0, none⟩)] w (Rets (Dk w 40 (Enc.int .u64) (B3 v.keys))) := by
 refine sx56.ok ?_
 unfold sx56
 have hpl := h.fits.parts
 have hlen := h.len
 intro b1 w2 hal2
 have ho2 := Own.alloc (E := Enc.int .u64) (l := []) hal2 (Nat.le_refl _) rfl (by decide)
 refine ⟨fun a l c p w' => ∃ (j : Nat) (K : List Int), p = j ∧ j ≤ v.parts.length ∧ Own w' w.heap.size 40 (Enc.int .u64) a l c K ∧ Grew w w' ∧ K.Pairwise (· < ·) ∧ K.length ≤ j * 256 ∧ (∀ k, k ∈ K ↔ ∃ q ∈ v.parts.take j, ∃ r ∈ q.1, A8 v.list r = (k, true)), fun _ _ _ p _ => v.parts.length - p.toNat, ⟨0, [], rfl, Nat.zero_le _, ho2, hal2.grew, List.Pairwise.nil, by simp, by simp⟩, ?_⟩
 rintro a4 l4 c4 n5 w6 ⟨j, K, rfl, hj, ho6, hg6, hs6, hlK, hm6⟩
 refine (Re (h.grew hg6)).use fun u w7 ⟨hv, hw⟩ => ?_
 subst hv; subst hw
 refine ⟨_, rfl, fun hlt => ?_, fun hge => ?_⟩
 ·simp only [decide_eq_true_eq] at hlt
  obtain ⟨q, hp⟩ : ∃ q, v.getP (j : Int) = some q := Adi (by omega) (by omega)
  obtain ⟨hp0, hp1, hpq⟩ := A4 hp
  simp only [Int.toNat_natCast] at hpq
  have hql := h.fits.logs q (List.mem_of_getElem? hpq)
  refine ⟨fun a l c i w' => ∃ (m : Nat) (K : List Int), i = m ∧ m ≤ q.1.length ∧ Own w' w.heap.size 40 (Enc.int .u64) a l c K ∧ Grew w w' ∧ K.Pairwise (· < ·) ∧ K.length ≤ j * 256 + m ∧ (∀ k, k ∈ K ↔ (∃ q ∈ v.parts.take j, ∃ r ∈ q.1, A8 v.list r = (k, true)) ∨ ∃ r ∈ q.1.take m, A8 v.list r = (k, true)), fun _ _ _ i _ => 300 - i.toNat, ⟨0, K, rfl, Nat.zero_le _, ho6, hg6, hs6, by omega, fun k => by rw [hm6 k]; simp⟩, ?_⟩
  rintro a12 l12 c12 n13 w14 ⟨m, K2, rfl, hm, ho14, hg14, hs14, hl14, hm14⟩
  have h14 := h.grew hg14
  obtain ⟨s, hs, hos, hc0, hc1, hlt2⟩ := h14.part hp
  have hsl : s.2.1 = q.1.length := hos.len
  have ecell : ∀ {w' : World}, w'.cell? ⟨x.lb, ((j : Int)).toNat, none⟩ = some (.slice s.1 s.2.1 s.2.2) → w'.cell? (Addr.add (⟨x.lb, 0, none⟩ : Addr) (((j : Nat) : Int).toNat * 1)) = some (.slice s.1 s.2.1 s.2.2) := fun hh => by simp only [Au, Nat.mul_one, Nat.zero_add]; exact hh
  refine ⟨_, _, _, rc0 h14, ⟨by omega, hlt2⟩, s.1, s.2.1, s.2.2, ecell hc0, fun hlt3 w18 hg18 => ?_, fun hge3 => ?_⟩
  ·simp only [decide_eq_true_eq] at hlt3
   have hg18' := hg14.trans hg18
   have h18 := h.grew hg18'
   obtain ⟨s2, hs2, hos2, hc02, -, -⟩ := h18.part hp
   rw [hs] at hs2; cases hs2
   obtain ⟨d, r, hd, hr, hcc⟩ := hos2.reads.at0 (k := m) (by omega)
   refine ⟨_, _, _, rc2 h18, _, _, _, rc0 h18, ⟨by omega, hlt2⟩, s.1, s.2.1, s.2.2, ecell hc02, ?_⟩
   rw [hd, Ab]
   have hrf := hql.2 r (List.mem_of_getElem? hr)
   have hw : IntKind.i64.wrap ((m : Int) + 1) = ((m + 1 : Nat) : Int) := by rw [IntKind.wrap_i64]; omega
   have dec : 300 - (((m + 1 : Nat) : Int)).toNat < 300 - ((m : Int)).toNat := by omega
   have emem : ∀ k, (∃ r ∈ q.1.take (m + 1), A8 v.list r = (k, true)) ↔ (∃ r ∈ q.1.take m, A8 v.list r = (k, true)) ∨ A8 v.list r = (k, true) := by
    intro k
    rw [Ak hr]
    constructor
    ·rintro ⟨z, hz, he⟩
     rcases List.mem_append.1 hz with hz | hz
     ·exact .inl ⟨z, hz, he⟩
     ·simp at hz; subst hz; exact .inr he
    ·rintro (⟨z, hz, he⟩ | he)
     ·exact ⟨z, List.mem_append_left _ hz, he⟩
     ·exact ⟨r, by simp, he⟩
   refine ⟨⟨by omega, by omega⟩, r.key, r.val, hcc, (W6 h18.list.reads h.fits.list hrf).use fun u w26 ⟨hv, hg26⟩ => ?_⟩
   subst hv
   have hg26' := hg18'.trans hg26
   have ho26 := (ho14.grew hg18).grew hg26
   refine ⟨_, _, rfl, fun hb => ?_, fun hb => ?_⟩
   ·refine (W9 (k := (A8 v.list r).1) ho26 hg26'.size hs14 (by omega)).use fun u w31 ⟨a33, l33, c33, R, hv, ho31, hu31, hb31, hsR, hmR, hlR⟩ => ?_
    subst hv
    rw [hw]
    have hkr : A8 v.list r = ((A8 v.list r).1, true) := by rw [← hb]
    refine ⟨_, _, _, rfl, ⟨m + 1, R, rfl, by omega, ho31, hg26'.then_own hu31 fun b hb => (ho26.blk hb).1, hsR, ?_, fun k => ?_⟩, dec⟩
    ·split at hlR <;> omega
    ·rw [hmR, hm14 k, emem k]
     constructor
     ·rintro (rfl | h1 | h1)
      ·exact .inr (.inr hkr)
      ·exact .inl h1
      ·exact .inr (.inl h1)
     ·rintro (h1 | h1 | h1)
      ·exact .inr (.inl h1)
      ·exact .inr (.inr h1)
      ·exact .inl (by rw [h1])
   ·rw [hw]
    refine ⟨⟨m + 1, K2, rfl, by omega, ho26, hg26', hs14, by omega, fun k => ?_⟩, dec⟩
    rw [hm14 k, emem k]
    constructor
    ·rintro (h1 | h1)
     ·exact .inl h1
     ·exact .inr (.inl h1)
    ·rintro (h1 | h1 | h1)
     ·exact .inl h1
     ·exact .inr h1
     ·rw [h1] at hb; cases hb
  ·simp only [decide_eq_false_iff_not] at hge3
   have hmq : m = q.1.length := by omega
   subst hmq
   have hw : IntKind.i64.wrap ((j : Int) + 1) = ((j + 1 : Nat) : Int) := by rw [IntKind.wrap_i64]; omega
   rw [hw]
   refine ⟨⟨j + 1, K2, rfl, by omega, ho14, hg14, hs14, by omega, fun k => ?_⟩, by show v.parts.length - (((j + 1 : Nat) : Int)).toNat < v.parts.length - ((j : Int)).toNat; omega⟩
   rw [hm14 k, Ak hpq, List.take_length]
   constructor
   ·rintro (⟨z, hz, r, hr, he⟩ | ⟨r, hr, he⟩)
    ·exact ⟨z, List.mem_append_left _ hz, r, hr, he⟩
    ·exact ⟨q, by simp, r, hr, he⟩
   ·rintro ⟨z, hz, r, hr, he⟩
    rcases List.mem_append.1 hz with hz | hz
    ·exact .inl ⟨z, hz, r, hr, he⟩
    ·simp at hz; subst hz; exact .inr ⟨r, hr, he⟩
 ·simp only [decide_eq_false_iff_not] at hge
  rw [List.take_of_length_le (by omega)] at hm6
  have e : K = B3 v.keys := E5 hs6 (Dw h.fits.keys.1) fun k => by rw [Dx, hm6 k, h.keys k]
  rw [e] at ho6
  exact ⟨_, rfl, a4, l4, c4, rfl, ho6, hg6⟩
theorem Mr (l : List Int) : (B3 l).length = l.length := (Bf l).length_eq
theorem Uf {w : World} {B : Nat} {x : Ch} {v : SrcV} {p : Int} {r : RecV} (h : RSA w B x v) (hr : r.Fits) (hB : B ≤ w.heap.size) :
  Aa Tryz.prog 17 [.pointer (some ⟨x.q, 0, none⟩), .int .i64 p, r.v] w (Rets fun u w' => u = .int .i64 (v.produce p r).2 ∧ RSM w B x w' (v.produce p r).1) := by
 refine sx17.ok ?_
 unfold sx17
 have hkf := R6 (p := p) h.fits hr
 have hkk := Ox (p := p) (r := r) h.keys
 intro w1 hg1
 have h1 := h.grew hg1
 refine (Pz (p := p) h1).use fun u w2 ⟨hw, hv⟩ => ?_
 subst hw; subst hv
 cases hp : v.getP p with
 | none =>
  have e : v.produce p r = (v, 60) := by unfold SrcV.produce; rw [hp]
  rw [e]
  exact ⟨_, rfl, fun _ => ⟨_, rfl, rfl, Cp.grew h hg1⟩, fun hh => (by cases hh)⟩
 | some q =>
  obtain ⟨s, hs, hos, hc0, hc1, hlt⟩ := h1.part hp
  obtain ⟨hp0, hp1, hpq⟩ := A4 hp
  have hql := h.fits.logs q (List.mem_of_getElem? hpq)
  have hsl : s.2.1 = q.1.length := hos.len
  have ecell : ∀ {w' : World}, w'.cell? ⟨x.lb, p.toNat, none⟩ = some (.slice s.1 s.2.1 s.2.2) → w'.cell? (Addr.add (⟨x.lb, 0, none⟩ : Addr) (p.toNat * 1)) = some (.slice s.1 s.2.1 s.2.2) := fun hh => by simp only [Au, Nat.mul_one, Nat.zero_add]; exact hh
  refine ⟨_, rfl, fun hh => (by cases hh), fun _ => ⟨_, _, _, rc0 h1, ⟨hp0, hlt⟩, s.1, s.2.1, s.2.2, ecell hc0, fun h256 => ?_, fun h256 w9 hg9 => ?_⟩⟩
  ·simp only [beq_iff_eq] at h256
   have e : v.produce p r = (v, 61) := by unfold SrcV.produce; rw [hp]; simp only; rw [if_pos (by omega)]
   rw [e]
   exact ⟨_, rfl, rfl, Cp.grew h hg1⟩
  simp only [beq_eq_false_iff_ne, ne_eq] at h256
  have hlt256 : ¬ 256 ≤ q.1.length := by omega
  have hg9' := hg1.trans hg9
  have h9 := h.grew hg9'
  refine ⟨_, _, _, rc2 h9, (W6 h9.list.reads h.fits.list hr).use fun u w11 ⟨hv, hg11⟩ => ?_⟩
  subst hv
  have hg11' := hg9'.trans hg11
  have h11 := h.grew hg11'
  -- the record behind the others
  have push : ∀ {w' : World}, Grew w w' → (v.produce p r).2 = 0 → (v.produce p r).1.parts = v.parts.set p.toNat (q.1 ++ [r], q.2) → (v.produce p r).1.list = v.list →
    ∀ w24, Grew w' w24 → ∃ (a25 : Option Addr) (l25 c25 : Nat), w24.cell? ⟨x.q, 0, none⟩ = some (.slice a25 l25 c25) ∧ ∃ (a26 : Option Addr) (l26 c26 : Nat), w24.cell? ⟨x.q, 0, none⟩ = some (.slice a26 l26 c26) ∧
    Ab a26 (fun d27 => (0 ≤ p ∧ p < (l26 : Nat)) ∧ ∃ (a28 : Option Addr) (l28 c28 : Nat), w24.cell? (Addr.add d27 (p.toNat * 1)) = some (.slice a28 l28 c28) ∧ ∀ (b29 : Nat) (w30 : World), Ag w24 w30 b29 (.cells
    #[.int .u64 r.key, .float .f64 r.val] 43) → Ad w24 w30 [(Addr.add d27 (p.toNat * 1)), ⟨x.q, 0, none⟩, ⟨x.q, 0, none⟩] ∧ SemW Tryz.prog (Builtin.append_ #[62, 62] 62 #[.slice a28 l28 c28, .slice (some ⟨b29, 0, none⟩) 1 1])
    (fun u32 w31 => ∃ (a33 : Option Addr) (l33 c33 : Nat), u32 = .slice a33 l33 c33 ∧ Ad w30 w31 [(Addr.add d27 (p.toNat * 1)), ⟨x.q, 0, none⟩, ⟨x.q, 0, none⟩] ∧ Ab a25 (fun d34 => (0 ≤ p ∧ p < (l25 : Nat)) ∧ Af
    w31 (Addr.add d34 (p.toNat * 1)) 0 [.slice a33 l33 c33] ∧ ∀ w35, w35 = setCells w31 (Addr.add d34 (p.toNat * 1)) 0 [.slice a33 l33 c33] → Rets (fun u w' => u = .int .i64 (v.produce p r).2 ∧ RSM w B x w' (v.produce p r).1) (.returned (.int .i64 0)) w35)) w30) := by
   intro w' hg' e0 eparts elist w24 hg24
   have hg24' := hg'.trans hg24
   have h24 := h.grew hg24'
   obtain ⟨s2, hs2, hos2, hc02, -, -⟩ := h24.part hp
   rw [hs] at hs2; cases hs2
   refine ⟨_, _, _, rc0 h24, _, _, _, rc0 h24, ⟨hp0, hlt⟩, s.1, s.2.1, s.2.2, ecell hc02, fun b29 w30 hal30 => ?_⟩
   have blb : x.lb < w24.heap.size := (h24.foot (.inr (.inl rfl))).2
   have bq : x.q < w24.heap.size := (h24.foot (.inl rfl)).2
   refine ⟨⟨by rw [Au]; exact hal30.grew.block _ blb, hal30.grew.block _ bq, hal30.grew.block _ bq, trivial⟩, ?_⟩
   refine Bc (l2 := [r]) Qz hos2 hal30 rfl rfl (Nat.le_trans hB hg24'.size) (by simp [maxLen]; omega) (by simp; omega) ?_
   rintro v32 w31 ⟨a33, l33, c33, rfl, ho31, hu31, hb31⟩
   have d3 : 115 ≠ 43 := by decide
   have d6 : 62 ≠ 43 := by decide
   have same : ∀ b, b < w24.heap.size → ¬ Blk s.1 b → w31.heap[b]? = w30.heap[b]? := fun b hb hn => by rw [hu31.block b hb hn, hal30.grew.block b hb]
   have nlb : ¬ Blk s.1 x.lb := own_ne h24.heads hos2 d6 _ ⟨_, rfl, rfl⟩
   have nq : ¬ Blk s.1 x.q := h24.row.own_ne hos2 d3
   refine ⟨_, _, _, rfl, ⟨by rw [Au]; exact same _ blb nlb, same _ bq nq, same _ bq nq, trivial⟩, ?_⟩
   have key := h24.setLog (v' := (v.produce p r).1) rsD hp hs ho31 hu31 hb31 eparts elist hkf hkk
   rw [Ab]
   simp only [Au, Nat.mul_one, Nat.zero_add]
   refine ⟨⟨hp0, hlt⟩, key.1, fun w35 h35 => ⟨_, rfl, by rw [e0], (key.2 w35 h35).after hg24'⟩⟩
  refine ⟨_, _, rfl, fun hk => ?_, fun hk => ?_⟩
  ·refine (Acj h11).use fun u w16 ⟨a18, l18, c18, hv, ho18, hg16⟩ => ?_
   subst hv
   have hl18 : l18 = v.keys.length := by rw [ho18.len, Mr]
   have hg16' := hg11'.trans hg16
   have hk64 := h.fits.keys.2.1
   refine ⟨_, _, _, rfl, fun h64 => ?_, fun h64 => ?_⟩
   ·simp only [beq_iff_eq] at h64
    refine (W9 (k := (A8 v.list r).1) (ho18.base (B' := w.heap.size) hg11'.size) hg16'.size (Dw h.fits.keys.1) (by rw [Mr]; omega)).use fun u w20 ⟨a22, l22, c22, R, hv, ho20, hu20, hb20, hsR, hmR, hlR⟩ => ?_
    subst hv
    have hl22 : l22 = R.length := ho20.len
    have hg20 : Grew w w20 := hg16'.then_own hu20 fun b hb => Nat.le_trans hg11'.size (ho18.blk hb).1
    rw [Mr] at hlR
    refine ⟨_, _, _, rfl, fun hgt => ?_, fun hle => ?_⟩
    ·simp only [decide_eq_true_eq, gt_iff_lt] at hgt
     have hni : (A8 v.list r).1 ∉ v.keys := fun hin => by rw [if_pos (Dx.2 hin)] at hlR; omega
     have e : v.produce p r = (v, 62) := by unfold SrcV.produce; rw [hp]; simp only; rw [if_neg hlt256, if_pos hk, if_neg hni, if_pos (by omega)]
     rw [e]
     exact ⟨_, rfl, rfl, Cp.grew h hg20⟩
    ·simp only [decide_eq_false_iff_not, gt_iff_lt] at hle
     have hin : (A8 v.list r).1 ∈ v.keys := Decidable.byContradiction fun hni => by rw [if_neg (fun h => hni (Dx.1 h))] at hlR; omega
     have e : v.produce p r = (v.setP p (q.1 ++ [r], q.2), 0) := by unfold SrcV.produce; rw [hp]; simp only; rw [if_neg hlt256, if_pos hk, if_pos hin]
     exact push hg20 (by rw [e]) (by rw [e]; rfl) (by rw [e]; rfl)
   ·simp only [beq_eq_false_iff_ne, ne_eq] at h64
    have e : (v.produce p r).2 = 0 ∧ (v.produce p r).1.parts = v.parts.set p.toNat (q.1 ++ [r], q.2) ∧ (v.produce p r).1.list = v.list := by
     unfold SrcV.produce; rw [hp]; simp only; rw [if_neg hlt256, if_pos hk]
     split
     ·exact ⟨rfl, rfl, rfl⟩
     ·rw [if_neg (by omega)]; exact ⟨rfl, rfl, rfl⟩
    exact push hg16' e.1 e.2.1 e.2.2
  ·have hk' : ¬ (A8 v.list r).2 = true := by rw [hk]; simp
   have e : v.produce p r = (v.setP p (q.1 ++ [r], q.2), 0) := by unfold SrcV.produce; rw [hp]; simp only; rw [if_neg hlt256, if_neg hk']
   exact push hg11' (by rw [e]) (by rw [e]; rfl) (by rw [e]; rfl)
section
variable {H : Type} {enc : TypeId × Value → H}
end
def sx52n (p : Int) (R : Ending → World → Prop) (w : World) : Prop :=
 R (.returned (.tuple #[.pointer none, .int .i64 2])) w
theorem sx52n.ok {p : Int} {R : Ending → World → Prop} {w : World} (h : sx52n p R w) : Aa Tryz.prog 52 [.pointer none, .int .i64 p] w R :=
 okOf { known := [8] } mix Tryz.func52 (by kernel_rfl) (by kernel_rfl) (by kernel_rfl) h
def sx16n (i p2_0 : Int) (p2_1 : Nat) (R : Ending → World → Prop) (w : World) : Prop :=
 ∀ w1, Grew w w1 → Aa Tryz.prog 52 [.pointer none, .int .i64 i] w1 (RetR R fun u3 w2 => ∃ p4 n5, u3 = .tuple #[.pointer p4, .int .i64 n5] ∧ ifB (n5 != 0) (R (.returned (.int .i64 n5)) w2) (Ab p4 (fun d7 => ∃ a8 l8 c8, w2.cell? d7 = some (.slice a8 l8 c8) ∧ ifB (decide (((l8 : Nat) : Int) ≥ 256)) (R (.returned (.int .i64 61)) w2) (∀ w9, Grew w2 w9 → False))))
theorem sx16n.ok {i p2_0 : Int} {p2_1 : Nat} {R : Ending → World → Prop} {w : World} (h : sx16n i p2_0 p2_1 R w) : Aa Tryz.prog 16 [.pointer none, .int .i64 i, .agg #[.int .u64 p2_0, .float .f64 p2_1]] w R :=
 okOf { locals := [5, 11], draws := [(6, { order := (ol [0,1,2,3,4,5,6,7,8,9,10] .nil), bars := [5] })] } mix Tryz.func16 (by kernel_rfl) (by kernel_rfl) (by kernel_rfl) h
def sx18n (p : Int) (on : Bool) (R : Ending → World → Prop) (w : World) : Prop :=
 Aa Tryz.prog 52 [.pointer none, .int .i64 p] w (RetR R fun u2 w1 => ∃ p3 n4, u2 = .tuple #[.pointer p3, .int .i64 n4] ∧ ifB (n4 == 0) (Ab p3 (fun d6 => Af w1 (Addr.add d6 1) 0 [.bool (!on)] ∧ ∀ w7, w7 = setCells w1 (Addr.add d6 1) 0 [.bool (!on)] → R (.returned (.int .i64 n4)) w7)) (R (.returned (.int .i64 n4)) w1))
theorem sx18n.ok {p : Int} {on : Bool} {R : Ending → World → Prop} {w : World} (h : sx18n p on R w) : Aa Tryz.prog 18 [.pointer none, .int .i64 p, .bool on] w R :=
 okOf {} mix Tryz.func18 (by kernel_rfl) (by kernel_rfl) (by kernel_rfl) h
def sx17n (i p2_0 : Int) (p2_1 : Nat) (R : Ending → World → Prop) (w : World) : Prop :=
 ∀ w1, Grew w w1 → R (.returned (.int .i64 2)) w1
theorem sx17n.ok {i p2_0 : Int} {p2_1 : Nat} {R : Ending → World → Prop} {w : World} (h : sx17n i p2_0 p2_1 R w) : Aa Tryz.prog 17 [.pointer none, .int .i64 i, .agg #[.int .u64 p2_0, .float .f64 p2_1]] w R :=
 okOf { locals := [5], known := [12] } mix Tryz.func17 (by kernel_rfl) (by kernel_rfl) (by kernel_rfl) h
def sx19n (p : Int) (on : Bool) (R : Ending → World → Prop) (w : World) : Prop :=
 R (.returned (.int .i64 2)) w
theorem sx19n.ok {p : Int} {on : Bool} {R : Ending → World → Prop} {w : World} (h : sx19n p on R w) : Aa Tryz.prog 19 [.pointer none, .int .i64 p, .bool on] w R :=
 okOf { known := [8] } mix Tryz.func19 (by kernel_rfl) (by kernel_rfl) (by kernel_rfl) h
theorem Ug {p : Int} {w : World} : Aa Tryz.prog 52 [.pointer none, .int .i64 p] w (Rets fun v w' => v = .tuple #[.pointer none, .int .i64 2] ∧ w' = w) := by
 refine sx52n.ok ?_
 unfold sx52n
 exact ⟨_, rfl, rfl, rfl⟩
theorem Uh {p : Int} {r : RecV} {w : World} : Aa Tryz.prog 16 [.pointer none, .int .i64 p, r.v] w (Rets fun v w' => v = .int .i64 2 ∧ Grew w w') := by
 refine sx16n.ok ?_
 unfold sx16n
 intro w1 hg1
 refine Ug.use fun v w2 ⟨hv, hw⟩ => ?_
 subst hv; subst hw
 exact ⟨_, _, rfl, fun _ => ⟨_, rfl, rfl, hg1⟩, fun h => (by cases h)⟩
theorem Vy {p : Int} {on : Bool} {w : World} : Aa Tryz.prog 18 [.pointer none, .int .i64 p, .bool on] w (Rets fun v w' => v = .int .i64 2 ∧ Grew w w') := by
 refine sx18n.ok ?_
 unfold sx18n
 refine Ug.use fun v w2 ⟨hv, hw⟩ => ?_
 subst hv; subst hw
 exact ⟨_, _, rfl, fun h => (by cases h), fun _ => ⟨_, rfl, rfl, Grew.refl _⟩⟩
theorem Sj {p : Int} {r : RecV} {w : World} : Aa Tryz.prog 17 [.pointer none, .int .i64 p, r.v] w (Rets fun v w' => v = .int .i64 2 ∧ Grew w w') := by
 refine sx17n.ok ?_
 unfold sx17n
 exact fun w1 hg1 => ⟨_, rfl, rfl, hg1⟩
theorem Ui {p : Int} {on : Bool} {w : World} : Aa Tryz.prog 19 [.pointer none, .int .i64 p, .bool on] w (Rets fun v w' => v = .int .i64 2 ∧ Grew w w') := by
 refine sx19n.ok ?_
 unfold sx19n
 exact ⟨_, rfl, rfl, Grew.refl _⟩
abbrev Twin : Type := Option (SrcX × Ch × SrcV)
def Fb (w0 w : World) (pa pb : Option Addr) : Twin → Prop
 | none => pa = none ∧ pb = none
 | some (x, y, v) => pa = some ⟨x.p, 0, none⟩ ∧ pb = some ⟨y.q, 0, none⟩ ∧ SrA w w0.heap.size x v ∧ RSA w w0.heap.size y v ∧ ∀ b, x.Foot b → ¬ y.Foot b
def Nk : Twin → Nat → Prop
 | none, _ => False
 | some (x, y, _), b => x.Foot b ∨ y.Foot b
theorem Fb.foot {w0 w : World} {pa pb : Option Addr} {t : Twin} (h : Fb w0 w pa pb t) {b : Nat} (hb : Nk t b) : w0.heap.size ≤ b ∧ b < w.heap.size := by
 match t with
 | none => exact hb.elim
 | some (x, y, v) =>
  obtain ⟨-, -, h1, h2, -⟩ := h
  exact hb.elim (fun hb => h1.foot hb) (fun hb => h2.foot hb)
theorem Fb.upd {S : Nat → Prop} {w0 w w' : World} {pa pb : Option Addr} {t : Twin} (h : Fb w0 w pa pb t) (hu : Upd S w w') (hn : ∀ b, Nk t b → ¬ S b) : Fb w0 w' pa pb t := by
 match t with
 | none => exact h
 | some (x, y, v) =>
  obtain ⟨e1, e2, h1, h2, h3⟩ := h
  exact ⟨e1, e2, h1.upd hu fun b hb => hn b (.inl hb), h2.upd hu fun b hb => hn b (.inr hb), h3⟩
theorem Fb.grew {w0 w w' : World} {pa pb : Option Addr} {t : Twin} (h : Fb w0 w pa pb t) (hg : Grew w w') : Fb w0 w' pa pb t := h.upd (hg.upd (S := fun _ => False)) fun _ _ h => h
def Steps (w0 w : World) (pa pb : Option Addr) (t : Twin) (w' : World) : Prop := ∃ t', Fb w0 w' pa pb t' ∧ Upd (Nk t) w w' ∧ ∀ b, Nk t' b → Nk t b ∨ w.heap.size ≤ b
section
variable {w0 w : World} {pa pb : Option Addr} {t : Twin} (h : Fb w0 w pa pb t)
include h
end
theorem P8 {w0 w w1 w2 : World} {x : SrcX} {y : Ch} {v v' : SrcV} (hB : w0.heap.size ≤ w.heap.size) (h1 : SrA w w0.heap.size x v) (h2 : RSA w w0.heap.size y v) (hd : ∀ b, x.Foot b → ¬ y.Foot b) (hM : SrM w w0.heap.size x w1 v') (hR : RSM w1 w0.heap.size y w2 v') :
  Steps w0 w (some ⟨x.p, 0, none⟩) (some ⟨y.q, 0, none⟩) (some (x, y, v)) w2 := by
 obtain ⟨x', a1, a2, a3, a4⟩ := hM.out
 obtain ⟨y', b1, b2, b3, b4⟩ := hR.out
 have s1 := a3.size
 have hd' : ∀ b, x'.Foot b → ¬ y.Foot b := fun b hb hy => (a4 b hb).elim (fun hx => hd b hx hy) (fun hx => by have := (h2.foot hy).2; omega)
 refine ⟨some (x', y', v'), ⟨by rw [a2], by rw [b2], a1.upd b3 hd', b1, fun b hb hy => ?_⟩, (a3.mono fun b _ hb => .inl hb).trans (b3.mono fun b _ hb => .inr hb), fun b hb => ?_⟩
 ·rcases b4 b hy with hy | hy
  ·exact hd' b hb hy
  ·have := (a1.foot hb).2; omega
 ·rcases hb with hb | hb
  ·exact (a4 b hb).imp .inl id
  ·rcases b4 b hb with hb | hb
   ·exact .inl (.inr hb)
   ·exact .inr (by omega)
end Go.Proofs.YtcpkneemhfnanaaGreat
