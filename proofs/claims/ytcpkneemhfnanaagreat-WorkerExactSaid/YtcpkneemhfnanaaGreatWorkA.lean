/- What a worker's parts hand back: New, stores, reply, find. Conditions: none. -/
import Derived.Test.YtcpkneemhfnanaaGreatProg
import Derived.Test.YtcpkneemhfnanaaGreatPlan
import Derived.Test.YtcpkneemhfnanaaGreatKRise
import Derived.Test.YtcpkneemhfnanaaGreatShelf
import Derived.Test.YtcpkneemhfnanaaGreatIter_W
import Derived.Test.YtcpkneemhfnanaaGreatSxWo
namespace Go.Proofs.YtcpkneemhfnanaaGreat
open Go.Sx
set_option maxRecDepth 100000
set_option linter.unusedVariables false
set_option linter.unusedSimpArgs false
def sx9 (p_0 p_1 p_2 : Int) (p_3 : Option Addr) (p_3_n p_3_c : Nat) (p_4 p_5 p_6 p_7 node : Int) (R : Ending → World → Prop) (w : World) : Prop :=
 ∀ w1, Grew w w1 → Aa Tryz.prog 24 [.agg #[.int .i64 p_0, .int .i64 p_1, .int .i64 p_2, .slice p_3 p_3_n p_3_c, .int .i64 p_4, .int .i64 p_5, .int .i64 p_6, .int .i64 p_7]] w1 (RetR R fun u3 w2 => ∃ n4, u3 = .int .i64 n4 ∧ ifB (n4 != 0) (R (.returned (.tuple #[.pointer none, .int .i64 n4])) w2) (Aa Tryz.prog 38 [.agg #[.int .i64 p_0, .int .i64 p_1, .int .i64 p_2, .slice p_3 p_3_n p_3_c, .int .i64 p_4, .int .i64 p_5, .int .i64 p_6, .int .i64 p_7], .int .i64 node] w2 (RetR R fun u7 w6 => ∃ n8, u7 = .int .i64 n8 ∧ ifB (n8 != 2) (R (.returned (.tuple #[.pointer none, .int .i64 170])) w6) (Aa Tryz.prog 39 [.slice p_3 p_3_n p_3_c] w6 (RetR R fun u11 w10 => ∃ a12 l12 c12, u11 = .slice a12 l12 c12 ∧ SemW Tryz.prog (Instr.makeMap 102 none) (fun u15 w14 => ∃ m16, u15 = .map m16 ∧ ∀ b17 w18, Ag w14 w18 b17 (.cells [.int .i64 p_0, .int .i64 p_1, .int .i64 p_2, .slice a12 l12 c12, .int .i64 p_4, .int .i64 p_5, .int .i64 p_6, .int .i64 p_7, .int .i64 node, .map m16].toArray 104) → R (.returned (.tuple #[.pointer (some ⟨b17, 0, none⟩), .int .i64 0])) w18) w10)))))
theorem sx9.ok {p_0 p_1 p_2 : Int} {p_3 : Option Addr} {p_3_n p_3_c : Nat} {p_4 p_5 p_6 p_7 node : Int} {R : Ending → World → Prop} {w : World} (h : sx9 p_0 p_1 p_2 p_3 p_3_n p_3_c p_4 p_5 p_6 p_7 node R w) : Aa Tryz.prog 9 [.agg #[.int .i64 p_0, .int .i64 p_1, .int .i64 p_2, .slice p_3 p_3_n p_3_c, .int .i64 p_4, .int .i64 p_5, .int .i64 p_6, .int .i64 p_7], .int .i64 node] w R :=
 okOf { locals := [2], sem := [22] } mix Tryz.func9 (by kernel_rfl) (by kernel_rfl) (by kernel_rfl) h
def sx89 (w0 : Nat) (R : Ending → World → Prop) (w : World) : Prop :=
 ∃ n1 n2 n3 a4 l4 c4 n5 n6 n7 n8, Ae w ⟨w0, 0, none⟩ 0 [.int .i64 n1, .int .i64 n2, .int .i64 n3, .slice a4 l4 c4, .int .i64 n5, .int .i64 n6, .int .i64 n7, .int .i64 n8] ∧ Aa Tryz.prog 77 [.agg #[.int .i64 n1, .int .i64 n2, .int .i64 n3, .slice a4 l4 c4, .int .i64 n5, .int .i64 n6, .int .i64 n7, .int .i64 n8]] w (RetR R fun u10 w9 => ∃ n11, u10 = .int .i64 n11 ∧ ∃ (I13 : Option Addr → Nat → Nat → Int → World → Prop) (m13 : Option Addr → Nat → Nat → Int → World → Nat), I13 none 0 0 0 w9 ∧ ∀ a14 l14 c14 n15 w16, I13 a14 l14 c14 n15 w16 → ifB (decide (n15 < n11)) (∃ n17 n18 n19 a20 l20 c20 n21 n22 n23 n24, Ae w16 ⟨w0, 0, none⟩ 0 [.int .i64 n17, .int .i64 n18, .int .i64 n19, .slice a20 l20 c20, .int .i64 n21, .int .i64 n22, .int .i64 n23, .int .i64 n24] ∧ Aa Tryz.prog 38 [.agg #[.int .i64 n17, .int .i64 n18, .int .i64 n19, .slice a20 l20 c20, .int .i64 n21, .int .i64 n22, .int .i64 n23, .int .i64 n24], .int .i64 n15] w16 (RetR R fun u26 w25 => ∃ n27, u26 = .int .i64 n27 ∧ ifB (n27 == 3) (∀ b29 w30, Ag w25 w30 b29 (.cells #[.int .i64 n15] 3) → SemW Tryz.prog (Builtin.append_ #[44, 44] 44 #[.slice a14 l14 c14, .slice (some ⟨b29, 0, none⟩) 1 1]) (fun u32 w31 => ∃ a33 l33 c33, u32 = .slice a33 l33 c33 ∧ (I13 a33 l33 c33 (IntKind.i64.wrap (n15 + 1)) w31 ∧ m13 a33 l33 c33 (IntKind.i64.wrap (n15 + 1)) w31 < m13 a14 l14 c14 n15 w16)) w30) ((I13 a14 l14 c14 (IntKind.i64.wrap (n15 + 1)) w25 ∧ m13 a14 l14 c14 (IntKind.i64.wrap (n15 + 1)) w25 < m13 a14 l14 c14 n15 w16)))) (R (.returned (.slice a14 l14 c14)) w16))
theorem sx89.ok {w0 : Nat} {R : Ending → World → Prop} {w : World} (h : sx89 w0 R w) : Aa Tryz.prog 89 [.pointer (some ⟨w0, 0, none⟩)] w R :=
 okOf { sem := [23], loops := [(3, { slots := [(3, .slice), (10, .int .i64)], cells := [] })] } mix Tryz.func89 (by kernel_rfl) (by kernel_rfl) (by kernel_rfl) h
def sx90 (w0 : Nat) (m_0 m_1 m_2 m_3 m_4 m_5 : Int) (m_6 : Option Addr) (m_6_n m_6_c : Nat) (m_7 : Option Addr) (m_7_n m_7_c : Nat) (m_8 : Option Addr) (m_8_n m_8_c : Nat) (kind to : Int) (R : Ending → World → Prop) (w : World) : Prop :=
 ∀ w1, Grew w w1 → ∀ w2, Grew w1 w2 → ∀ w3, Grew w2 w3 → ∃ n4, w3.cell? ⟨w0, 8, none⟩ = some (.int .i64 n4) ∧ R (.returned (.agg #[.int .i64 kind, .int .i64 n4, .int .i64 to, .int .i64 m_3, .int .i64 m_4, .int .i64 0, .slice none 0 0, .slice none 0 0, .slice none 0 0])) w3
theorem sx90.ok {w0 : Nat} {m_0 m_1 m_2 m_3 m_4 m_5 : Int} {m_6 : Option Addr} {m_6_n m_6_c : Nat} {m_7 : Option Addr} {m_7_n m_7_c : Nat} {m_8 : Option Addr} {m_8_n m_8_c : Nat} {kind to : Int} {R : Ending → World → Prop} {w : World} (h : sx90 w0 m_0 m_1 m_2 m_3 m_4 m_5 m_6 m_6_n m_6_c m_7 m_7_n m_7_c m_8 m_8_n m_8_c kind to R w) : Aa Tryz.prog 90 [.pointer (some ⟨w0, 0, none⟩), .agg #[.int .i64 m_0, .int .i64 m_1, .int .i64 m_2, .int .i64 m_3, .int .i64 m_4, .int .i64 m_5, .slice m_6 m_6_n m_6_c, .slice m_7 m_7_n m_7_c, .slice m_8 m_8_n m_8_c], .int .i64 kind, .int .i64 to] w R :=
 okOf { locals := [5, 8], draws := [(1, { order := (ol [0,1,2,3,4,5,6,7,8,9,10,11] .nil), bars := [11] })] } mix Tryz.func90 (by kernel_rfl) (by kernel_rfl) (by kernel_rfl) h
def sx91 (w0 : Nat) (m_0 m_1 m_2 m_3 m_4 m_5 : Int) (m_6 : Option Addr) (m_6_n m_6_c : Nat) (m_7 : Option Addr) (m_7_n m_7_c : Nat) (m_8 : Option Addr) (m_8_n m_8_c : Nat) (R : Ending → World → Prop) (w : World) : Prop :=
 ∀ w1, Grew w w1 → ∀ w2, Grew w1 w2 → ∃ m3, w2.cell? ⟨w0, 9, none⟩ = some (.map m3) ∧ SemW Tryz.prog (Instr.lookup 102 (.map m3) (.int .i64 m_3) false) (fun u5 w4 => ∃ p6, u5 = .pointer p6 ∧ ifB (Option.isNone p6) (∀ w7, Grew w4 w7 → R (.returned (.pointer none)) w7) (Ab p6 (fun d8 => ∃ n9, w4.cell? d8 = some (.int .i64 n9) ∧ ∀ w10, Grew w4 w10 → ifB (n9 != m_4) (R (.returned (.pointer none)) w10) (R (.returned (.pointer p6)) w10)))) w2
theorem sx91.ok {w0 : Nat} {m_0 m_1 m_2 m_3 m_4 m_5 : Int} {m_6 : Option Addr} {m_6_n m_6_c : Nat} {m_7 : Option Addr} {m_7_n m_7_c : Nat} {m_8 : Option Addr} {m_8_n m_8_c : Nat} {R : Ending → World → Prop} {w : World} (h : sx91 w0 m_0 m_1 m_2 m_3 m_4 m_5 m_6 m_6_n m_6_c m_7 m_7_n m_7_c m_8 m_8_n m_8_c R w) : Aa Tryz.prog 91 [.pointer (some ⟨w0, 0, none⟩), .agg #[.int .i64 m_0, .int .i64 m_1, .int .i64 m_2, .int .i64 m_3, .int .i64 m_4, .int .i64 m_5, .slice m_6 m_6_n m_6_c, .slice m_7 m_7_n m_7_c, .slice m_8 m_8_n m_8_c]] w R :=
 okOf { locals := [3], sem := [12], draws := [(1, { order := (ol [0,1,2,3,4,5,6,7] .nil), bars := [6] })] } mix Tryz.func91 (by kernel_rfl) (by kernel_rfl) (by kernel_rfl) h
def wT : Q1 := ⟨104, 79, 140, 3, 83⟩
theorem wTok : wT.Ok := ⟨by decide, by decide, by decide, by decide, by decide, by decide, by decide, by decide, by decide, by decide⟩
abbrev WA := Bg wT
abbrev WM := B7 wT
abbrev MO := MOwn 3 40 83
def plX (X : A6) (V : Ac) : Plan := ⟨V.plan, X.o⟩
theorem Ww {w : World} {B : Nat} {X : A6} {V : Ac} (h : WA w B X V) : (plX X V).At w ∧ Ae w ⟨X.p, 0, none⟩ 0 (plX X V).vals := ⟨h.ops.reads, h.row.at 0 8⟩
theorem Aeh {w : World} {B : Nat} {X : A6} {V : Ac} (h : WA w B X V) : w.cell? ⟨X.p, 8, none⟩ = some (.int .i64 V.node) := by rw [h.row.cell]; rfl
theorem wMap {w : World} {B : Nat} {X : A6} {V : Ac} (h : WA w B X V) : w.cell? ⟨X.p, 9, none⟩ = some (.map (some X.h)) := by rw [h.row.cell]; rfl
theorem Ty : Tryz.prog.underlying 102 = some (.map 3 136) := by kernel_rfl
theorem uInt : Tryz.prog.underlying 3 = some (.int .i64) := by kernel_rfl
theorem zAtt : ∀ w, (zeroValue 136).run Tryz.prog w = .ok (.pointer none) w := Jw (by kernel_rfl)
theorem Vl {k : Int} (h : -9223372036854775808 ≤ k ∧ k < 9223372036854775808) : (Lit.int .i64 k).wf = true := by simp [Lit.wf, IntKind.min, IntKind.max, IntKind.signed, IntKind.bits]; omega
def NewW (w : World) (p : Bd) (node : Int) (v : Value) (w' : World) : Prop :=
 Grew w w' ∧ ((C0 p = false ∧ v = .tuple #[.pointer none, .int .i64 (Gj p)]) ∨ (C0 p = true ∧ Ax p node ≠ 2 ∧ v = .tuple #[.pointer none, .int .i64 170]) ∨
  (C0 p = true ∧ Ax p node = 2 ∧ ∃ X, v = .tuple #[.pointer (some ⟨X.p, 0, none⟩), .int .i64 0] ∧ WA w' w.heap.size X ⟨p, node, []⟩))
theorem Q2 {p : Bd} (h : C0 p = true) {n : Int} (hk : Ax p n ≠ 0) : 0 ≤ n ∧ n ≤ 8 := by
 have hG := C1.1 h
 have := hG.workers; have := hG.stores
 unfold Ax E7 at hk
 rw [if_pos h] at hk
 split at hk
 ·exact (hk rfl).elim
 ·omega
theorem Wx {x : Plan} {node : Int} {w : World} (hx : x.At w) (hf : ∀ o ∈ x.c.ops, o.Fits) : Aa Tryz.prog 9 [x.val, .int .i64 node] w (Rets (NewW w x.c node)) := by
 refine sx9.ok ?_
 unfold sx9
 intro w1 hg1
 refine (Mj (hx.grew hg1)).use fun v w2 ⟨hv, hg2⟩ => ?_
 subst hv
 have hg2 := hg1.trans hg2
 refine ⟨_, rfl, fun h => ⟨_, rfl, hg2, .inl ⟨?_, rfl⟩⟩, fun h => ?_⟩
 ·cases hc : C0 x.c with
  | false => rfl
  | true => rw [Ci.2 hc] at h; simp at h
 have hgd : C0 x.c = true := Ci.1 (by simpa using h)
 have hG := C1.1 hgd
 refine (Po (n := node) (hx.grew hg2)).use fun v w6 ⟨hv, hg6⟩ => ?_
 subst hv
 have hg6 := hg2.trans hg6
 refine ⟨_, rfl, fun h2 => ⟨_, rfl, hg6, .inr (.inl ⟨hgd, by simpa using h2, rfl⟩)⟩, fun h2 => ?_⟩
 have hk2 : Ax x.c node = 2 := by simpa using h2
 have hlen := (Cu hG.ops).1
 refine (Pp (hx.grew hg6) (by omega)).use fun v w10 ⟨a12, l12, c12, hv, ho, hg10⟩ => ?_
 subst hv
 refine ⟨_, _, _, rfl, Et fun m w14 halm => ⟨_, rfl, fun b w18 hal => ⟨_, rfl, ?_⟩⟩⟩
 have hg18 := hg6.trans (hg10.trans (halm.grew.trans hal.grew))
 have s6 := hg6.size; have s10 := hg10.size; have sm := halm.grew.size; have nm := halm.new; have nb := hal.new
 refine ⟨hg18, .inr (.inr ⟨hgd, hk2, ⟨b, (a12, l12, c12), m, []⟩, rfl, ⟨hal.at_, ((ho.grew halm.grew).grew hal.grew).base hg6.size, (Av.empty halm).grew hal.grew, rfl, fun q hq => (by simp at hq), fun q hq => (by simp at hq), fun q hq => (by simp at hq), ⟨by simp only; omega, by simp only; omega⟩, ⟨hG, hf, Q2 hgd (by rw [hk2]; decide), fun q hq => (by simp at hq), fun q hq => (by simp at hq)⟩⟩⟩)⟩
theorem Q3 {w : World} {B : Nat} {X : A6} {V : Ac} (h : WA w B X V) : Aa Tryz.prog 89 [.pointer (some ⟨X.p, 0, none⟩)] w (Rets (Dk w 3 (Enc.int .i64) (A3 V.plan))) := by
 refine sx89.ok ?_
 unfold sx89
 obtain ⟨hA, hC⟩ := Ww h
 have hG := h.ok.good
 have hgd := C1.2 hG
 have := hG.workers; have := hG.stores
 refine ⟨_, _, _, _, _, _, _, _, _, _, hC, (Qy (x := plX X V) hA).use fun v w9 ⟨hv, hg9⟩ => ?_⟩
 subst hv
 have hN : E7 (plX X V).c = 1 + V.plan.workers + V.plan.stores := by unfold E7; rw [show (plX X V).c = V.plan from rfl, if_pos hgd]
 rw [hN]
 refine ⟨_, rfl, fun a n c i w' => ∃ k : Nat, i = k ∧ (k : Int) ≤ 1 + V.plan.workers + V.plan.stores ∧ Own w' w.heap.size 3 (Enc.int .i64) a n c ((A3 V.plan).take (k - (1 + V.plan.workers).toNat)) ∧ Grew w w', fun _ _ _ i _ => 9 - i.toNat, ⟨0, rfl, by omega, by simpa using Own.nil _ _ _ _, hg9⟩, ?_⟩
 rintro a14 l14 c14 n15 w16 ⟨k, rfl, hk, ho, hg16⟩
 refine ⟨fun hlt => ?_, fun hge => ?_⟩
 ·simp only [decide_eq_true_eq] at hlt
  have hw : IntKind.i64.wrap ((k : Int) + 1) = ((k + 1 : Nat) : Int) := by rw [IntKind.wrap_i64]; omega
  have dec : ∀ {x y : World}, 9 - (IntKind.i64.wrap ((k : Int) + 1)).toNat < 9 - ((k : Int)).toNat := by rw [hw]; omega
  have h16 := h.grew hg16
  obtain ⟨hA', hC'⟩ := Ww h16
  have ht := Tx hG hlt
  refine ⟨_, _, _, _, _, _, _, _, _, _, hC', (Po (x := plX X V) (n := (k : Int)) hA').use fun v w25 ⟨hv, hg25⟩ => ?_⟩
  subst hv
  rw [show (plX X V).c = V.plan from rfl]
  have hg25' := hg16.trans hg25
  refine ⟨_, rfl, fun h3 b w30 hal => ?_, fun h3 => ?_⟩
  ·rw [if_pos (by simpa using h3)] at ht
   have ho25 := ho.grew hg25
   have htl : ((A3 V.plan).take (k - (1 + V.plan.workers).toNat)).length ≤ 4 := by rw [List.length_take, Cj]; omega
   refine Bc (l2 := [(k : Int)]) elCI ho25 hal rfl rfl hg25'.size (by simp only [maxLen, List.length_singleton]; omega) (by simp only [List.length_singleton]; omega) ?_
   rintro v w31 ⟨a33, l33, c33, rfl, ho31, hu31, hb31⟩
   rw [← ht] at ho31
   exact ⟨_, _, _, rfl, ⟨k + 1, hw, by omega, ho31, hg25'.then_own hu31 fun b hb => (ho25.blk hb).1⟩, dec (x := w) (y := w)⟩
  ·rw [if_neg (by simpa using h3)] at ht
   exact ⟨⟨k + 1, hw, by omega, by rw [ht]; exact ho.grew hg25, hg25'⟩, dec (x := w) (y := w)⟩
 ·simp only [decide_eq_false_iff_not] at hge
  rw [List.take_of_length_le (by rw [Cj]; omega)] at ho
  exact ⟨_, rfl, _, _, _, rfl, ho, hg16⟩
theorem Lo {w : World} {B : Nat} {X : A6} {V : Ac} {m : Msg} {kind to : Int} (h : WA w B X V) : Aa Tryz.prog 90 [.pointer (some ⟨X.p, 0, none⟩), m.val, .int .i64 kind, .int .i64 to] w
  (Rets fun u w' => u = .agg #[.int .i64 kind, .int .i64 V.node, .int .i64 to, .int .i64 m.c.batch, .int .i64 m.c.att, .int .i64 0, .slice none 0 0, .slice none 0 0, .slice none 0 0] ∧ Grew w w') := by
 refine sx90.ok ?_
 unfold sx90
 intro w1 hg1 w2 hg2 w3 hg3
 have hg := hg1.trans (hg2.trans hg3)
 exact ⟨_, Aeh (h.grew hg), _, rfl, rfl, hg⟩
def Afh (w : World) (X : A6) (V : Ac) (m : MsgV) (u : Value) (w' : World) : Prop := Grew w w' ∧ ((V.find m = none ∧ u = .pointer none) ∨ ∃ x, getM X.l m.batch = some x ∧ x.c.number = m.att ∧ V.find m = some x.c ∧ u = .pointer (some ⟨x.b, 0, none⟩))
theorem Tz {w : World} {B : Nat} {X : A6} {V : Ac} {m : Msg} (h : WA w B X V) : Aa Tryz.prog 91 [.pointer (some ⟨X.p, 0, none⟩), m.val] w (Rets (Afh w X V m.c)) := by
 refine sx91.ok ?_
 unfold sx91
 intro w1 hg1 w2 hg2
 have hg := hg1.trans hg2
 have h2 := h.grew hg
 have hget := h.get m.c.batch
 refine ⟨_, wMap h2, E4 (F := attF) Ty uInt zAtt h2.map ?_⟩
 cases hx : getM X.l m.c.batch with
 | none =>
  rw [hx] at hget
  refine ⟨_, rfl, fun _ w7 hg7 => ⟨_, rfl, hg.trans hg7, .inl ⟨by unfold Ac.find; rw [hget]; rfl, rfl⟩⟩, fun h => (by simp at h)⟩
 | some x =>
  rw [hx] at hget
  obtain ⟨hA, -, -⟩ := h2.att hx
  refine ⟨_, rfl, fun h => (by simp at h), fun _ => ?_⟩
  rw [Ab]
  have hc : w2.cell? ⟨x.b, 0, none⟩ = some (.int .i64 x.c.number) := by rw [hA.row.cell]; rfl
  refine ⟨_, hc, fun w10 hg10 => ⟨fun hne => ?_, fun heq => ?_⟩⟩
  ·have hne : x.c.number ≠ m.c.att := by simpa using hne
   exact ⟨_, rfl, hg.trans hg10, .inl ⟨by unfold Ac.find; rw [hget]; simp [hne], rfl⟩⟩
  ·have heq : x.c.number = m.c.att := by simpa using heq
   exact ⟨_, rfl, hg.trans hg10, .inr ⟨x, hx, heq, by unfold Ac.find; rw [hget]; simp [heq], rfl⟩⟩
end Go.Proofs.YtcpkneemhfnanaaGreat
