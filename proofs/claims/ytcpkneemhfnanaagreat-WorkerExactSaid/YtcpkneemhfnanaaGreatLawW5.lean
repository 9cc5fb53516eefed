/- WorkerExact: what it computes, and its row. Conditions: none. -/
import Derived.Test.YtcpkneemhfnanaaGreatProg
import Derived.Test.YtcpkneemhfnanaaGreatWorkK
import Derived.Test.YtcpkneemhfnanaaGreatRows
import Derived.Test.YtcpkneemhfnanaaGreatSxP
namespace Go.Proofs.YtcpkneemhfnanaaGreat
open Go.Sx
set_option maxRecDepth 100000
set_option linter.unusedVariables false
set_option linter.unusedSimpArgs false
def sx3 (d_0 d_1 d_2 : Int) (d_3 : Option Addr) (d_3_n d_3_c : Nat) (d_4 d_5 d_6 d_7 i : Int) (p2 : Option Addr) (p2_n p2_c : Nat) (R : Ending → World → Prop) (w : World) : Prop :=
  ∀ w1, Grew w w1 → Aa Tryz.prog 8 [] w1 (RetR R fun u3 w2 => ∃ b4, u3 = .bool b4 ∧ ifB (!b4) (R (.returned (.bool false)) w2) (Aa Tryz.prog 9 [.agg #[.int .i64 d_0, .int .i64 d_1, .int .i64 d_2, .slice d_3 d_3_n d_3_c, .int .i64 d_4, .int .i64 d_5, .int .i64 d_6, .int .i64 d_7], .int .i64 i] w2 (RetR R fun u7 w6 => ∃ p8 n9, u7 = .tuple #[.pointer p8, .int .i64 n9] ∧ Aa Tryz.prog 10 [.agg #[.int .i64 d_0, .int .i64 d_1, .int .i64 d_2, .slice d_3 d_3_n d_3_c, .int .i64 d_4, .int .i64 d_5, .int .i64 d_6, .int .i64 d_7], .int .i64 i] w6 (RetR R fun u12 w11 => ∃ p13 n14, u12 = .tuple #[.pointer p13, .int .i64 n14] ∧ ifB (n9 != n14) (R (.returned (.bool false)) w11) (ifB (!(Option.isNone p8 == Option.isNone p13)) (R (.returned (.bool false)) w11) (Aa Tryz.prog 11 [.int .i64 d_0, .slice d_3 d_3_n d_3_c] w11 (RetR R fun u17 w16 => ∃ p18 n19, u17 = .tuple #[.pointer p18, .int .i64 n19] ∧ Aa Tryz.prog 12 [.int .i64 d_0, .slice d_3 d_3_n d_3_c] w16 (RetR R fun u22 w21 => ∃ p23 n24, u22 = .tuple #[.pointer p23, .int .i64 n24] ∧ ifB (n19 != n24) (R (.returned (.bool false)) w21) (ifB (!(Option.isNone p18 == Option.isNone p23)) (R (.returned (.bool false)) w21) (∃ (I26 : Int → World → Prop) (m26 : Int → World → Nat), I26 0 w21 ∧ ∀ n27 w28, I26 n27 w28 → ifB (decide (n27 < ((p2_n : Nat) : Int))) (ifB (decide (n27 < 1000)) (Ab p2 (fun d29 => (0 ≤ n27 ∧ n27 < (p2_n : Nat)) ∧ ∃ n30 n31 b32 n33 x34 n35 n36 n37 n38 n39 n40 a41 l41 c41 a42 l42 c42 a43 l43 c43, Ae w28 (Addr.add d29 (n27.toNat * 14)) 0 [.int .i64 n30, .int .i64 n31, .bool b32, .int .u64 n33, .float .f64 x34, .int .i64 n35, .int .i64 n36, .int .i64 n37, .int .i64 n38, .int .i64 n39, .int .i64 n40, .slice a41 l41 c41, .slice a42 l42 c42, .slice a43 l43 c43] ∧ ∀ w44, Grew w28 w44 → ∃ J45 : World → Prop, (ifB (n30 == 1) (Aa Tryz.prog 13 [.pointer p8, .pointer p18, .agg #[.int .i64 n35, .int .i64 n36, .int .i64 n37, .int .i64 n38, .int .i64 n39, .int .i64 n40, .slice a41 l41 c41, .slice a42 l42 c42, .slice a43 l43 c43]] w44 (RetR R fun u47 w46 => ∃ a48 l48 c48 n49, u47 = .tuple #[.slice a48 l48 c48, .int .i64 n49] ∧ Aa Tryz.prog 14 [.pointer p13, .pointer p23, .agg #[.int .i64 n35, .int .i64 n36, .int .i64 n37, .int .i64 n38, .int .i64 n39, .int .i64 n40, .slice a41 l41 c41, .slice a42 l42 c42, .slice a43 l43 c43]] w46 (RetR R fun u52 w51 => ∃ a53 l53 c53 n54, u52 = .tuple #[.slice a53 l53 c53, .int .i64 n54] ∧ ifB (n49 != n54) (R (.returned (.bool false)) w51) (Aa Tryz.prog 15 [.slice a48 l48 c48, .slice a53 l53 c53] w51 (RetR R fun u57 w56 => ∃ b58, u57 = .bool b58 ∧ ifB (!b58) (R (.returned (.bool false)) w56) (J45 w56)))))) (ifB (n30 == 2) (Aa Tryz.prog 16 [.pointer p18, .int .i64 n31, .agg #[.int .u64 n33, .float .f64 x34]] w44 (RetR R fun u61 w60 => ∃ n62, u61 = .int .i64 n62 ∧ Aa Tryz.prog 17 [.pointer p23, .int .i64 n31, .agg #[.int .u64 n33, .float .f64 x34]] w60 (RetR R fun u65 w64 => ∃ n66, u65 = .int .i64 n66 ∧ J45 w64))) (ifB (n30 == 3) (Aa Tryz.prog 18
 [.pointer p18, .int .i64 n31, .bool (!b32)] w44 (RetR R fun u69 w68 => ∃ n70, u69 = .int .i64 n70 ∧ Aa Tryz.prog 19 [.pointer p23, .int .i64 n31, .bool (!b32)] w68 (RetR R fun u73 w72 => ∃ n74, u73 = .int .i64 n74 ∧ J45 w72))) (ifB (n30 == 4) (Aa Tryz.prog 13 [.pointer p8, .pointer none, .agg #[.int .i64 n35, .int .i64 n36, .int .i64 n37, .int .i64 n38, .int .i64 n39, .int .i64 n40, .slice a41 l41 c41, .slice a42 l42 c42, .slice a43 l43 c43]] w44 (RetR R fun u77 w76 => ∃ a78 l78 c78 n79, u77 = .tuple #[.slice a78 l78 c78, .int .i64 n79] ∧ ifB (((l78 : Nat) : Int) != 0) (R (.returned (.bool false)) w76) (ifB (n79 != 2) (R (.returned (.bool false)) w76) (J45 w76)))) (J45 w44))))) ∧ ∀ w81, J45 w81 → Aa Tryz.prog 21 [.pointer p8] w81 (RetR R fun u83 w82 => ∃ a84 l84 c84, u83 = .slice a84 l84 c84 ∧ Aa Tryz.prog 22 [.pointer p13] w82 (RetR R fun u87 w86 => ∃ a88 l88 c88, u87 = .slice a88 l88 c88 ∧ Aa Tryz.prog 20 [.slice a84 l84 c84, .slice a88 l88 c88] w86 (RetR R fun u91 w90 => ∃ b92, u91 = .bool b92 ∧ ifB (!b92) (R (.returned (.bool false)) w90) ((I26 (IntKind.i64.wrap (n27 + 1)) w90 ∧ m26 (IntKind.i64.wrap (n27 + 1)) w90 < m26 n27 w28))))))) (Aa Tryz.prog 21 [.pointer p8] w28 (RetR R fun u95 w94 => ∃ a96 l96 c96, u95 = .slice a96 l96 c96 ∧ Aa Tryz.prog 22 [.pointer p13] w94 (RetR R fun u99 w98 => ∃ a100 l100 c100, u99 = .slice a100 l100 c100 ∧ Aa Tryz.prog 20 [.slice a96 l96 c96, .slice a100 l100 c100] w98 (RetR R fun u103 w102 => ∃ b104, u103 = .bool b104 ∧ R (.returned (.bool b104)) w102))))) (Aa Tryz.prog 21 [.pointer p8] w28 (RetR R fun u107 w106 => ∃ a108 l108 c108, u107 = .slice a108 l108 c108 ∧ Aa Tryz.prog 22 [.pointer p13] w106 (RetR R fun u111 w110 => ∃ a112 l112 c112, u111 = .slice a112 l112 c112 ∧ Aa Tryz.prog 20 [.slice a108 l108 c108, .slice a112 l112 c112] w110 (RetR R fun u115 w114 => ∃ b116, u115 = .bool b116 ∧ R (.returned (.bool b116)) w114))))))))))))))
theorem sx3.ok {d_0 d_1 d_2 : Int} {d_3 : Option Addr} {d_3_n d_3_c : Nat} {d_4 d_5 d_6 d_7 i : Int} {p2 : Option Addr} {p2_n p2_c : Nat} {R : Ending → World → Prop} {w : World} (h : sx3 d_0 d_1 d_2 d_3 d_3_n d_3_c d_4 d_5 d_6 d_7 i p2 p2_n p2_c R w) : Aa Tryz.prog 3 [.agg #[.int .i64 d_0, .int .i64 d_1, .int .i64 d_2, .slice d_3 d_3_n d_3_c, .int .i64 d_4, .int .i64 d_5, .int .i64 d_6, .int .i64 d_7], .int .i64 i, .slice p2 p2_n p2_c] w R :=
 okOf { locals := [3, 14], loops := [(12, { slots := [(13, .int .i64)], cells := [] })], cuts := [(31, { slots := [], cells := [] })] } mix Tryz.func3 (by kernel_rfl) (by kernel_rfl) (by kernel_rfl) h
theorem Acu {tS tL tB tR tO : TypeId} {w : World} {B B' : Nat} {x : Ch} {v : SrcV} (h : Dd tS tL tB tR tO w B x v) (hB : B' ≤ B) : Dd tS tL tB tR tO w B' x v :=
 ⟨h.row, h.heads.base hB, h.offs.base hB, h.len, fun i s hs => by obtain ⟨q, a, c⟩ := h.logs i s hs; exact ⟨q, a, c.base hB⟩, h.apart, h.list.base hB, Nat.le_trans hB h.qB, h.fits, h.keys⟩
theorem Acv {w0 w1 w2 w3 : World} {parts : Int} {l : List OpV} {u u' : Value} (hg : Grew w0 w1) (h : NewS w1 parts l u w2) (h' : Ab3 w2 parts l u' w3) : ∃ (pa pb : Option Addr) (e : Int) (t : Twin), u = .tuple #[.pointer pa, .int .i64 e] ∧ u' = .tuple #[.pointer pb, .int .i64 e] ∧ Option.isNone pa = Option.isNone pb ∧ Fb w0 w3 pa pb t ∧ Grew w1 w3 ∧ (∀ b, Nk t b → w1.heap.size ≤ b) ∧ ((1 ≤ parts ∧ parts ≤ 4) ∧ Aw l = true → e = 0 ∧ Option.isNone pa = false) := by
 obtain ⟨g1, c⟩ := h
 obtain ⟨g2, c'⟩ := h'
 have hgg := g1.trans g2
 have s1 := hg.size
 have s2 := g1.size
 rcases c with ⟨hp, hv⟩ | ⟨hp, hc, hv⟩ | ⟨hp, hc, x, hv, hS⟩
 ·rcases c' with ⟨-, hv'⟩ | ⟨hp', -⟩ | ⟨hp', -⟩
  ·exact ⟨none, none, 1, none, hv, hv', rfl, ⟨rfl, rfl⟩, hgg, fun b hb => hb.elim, fun h => by omega⟩
  ·omega
  ·omega
 ·rcases c' with ⟨hp', -⟩ | ⟨-, -, hv'⟩ | ⟨-, hc', -⟩
  ·omega
  ·exact ⟨none, none, 30, none, hv, hv', rfl, ⟨rfl, rfl⟩, hgg, fun b hb => hb.elim, fun h => by rw [hc] at h; cases h.2⟩
  ·rw [hc] at hc'; cases hc'
 ·rcases c' with ⟨hp', -⟩ | ⟨-, hc', -⟩ | ⟨-, -, y, hv', hR⟩
  ·omega
  ·rw [hc] at hc'; cases hc'
  ·refine ⟨some ⟨x.p, 0, none⟩, some ⟨y.q, 0, none⟩, 0, some (x, y, Dz parts.toNat l), hv, hv', rfl, ⟨rfl, rfl, Ad2 (hS.grew g2) s1, Acu hR (by omega), fun b hb hb' => ?_⟩, hgg, fun b hb => ?_, fun _ => ⟨rfl, rfl⟩⟩
   ·have := (hS.foot hb).2; have := (hR.foot hb').1; omega
   ·rcases hb with hb | hb
    ·exact (hS.foot hb).1
    ·exact Nat.le_trans s2 (hR.foot hb).1
theorem Zj {w w' : World} {parts : Int} {l : List OpV} {u : Value} (h : NewS w parts l u w') : ∃ (p : Option Addr) (e : Int), u = .tuple #[.pointer p, .int .i64 e] := by
 obtain ⟨-, ⟨-, hv⟩ | ⟨-, -, hv⟩ | ⟨-, -, x, hv, -⟩⟩ := h
 ·exact ⟨_, _, hv⟩
 ·exact ⟨_, _, hv⟩
 ·exact ⟨_, _, hv⟩
theorem Zk {w0 w : World} {pa pb qa qb : Option Addr} {N : Nat} {p : Int} {r : RecV} (hG : Game w0 w pa pb qa qb N) (hr : r.Fits) :
  Aa Tryz.prog 16 [.pointer qa, .int .i64 p, r.v] w (Rets fun u w1 => ∃ e, u = .int .i64 e ∧ Aa Tryz.prog 17 [.pointer qb, .int .i64 p, r.v] w1 (Rets fun u' w2 => ∃ e', u' = .int .i64 e' ∧ Game w0 w2 pa pb qa qb N)) := by
 obtain ⟨⟨wt, st, h1, h2, h3, h4⟩, h5⟩ := id hG
 have zz := h5.size
 match st, h2, h3 with
 | none, h2, h3 =>
  obtain ⟨rfl, rfl⟩ := h2
  exact Uh.mono fun e w1 ⟨v, he, hv, hg⟩ => ⟨v, he, 2, hv, Sj.mono fun e w2 ⟨v, he, hv, hg2⟩ => ⟨v, he, 2, hv, (hG.more hg).more hg2⟩⟩
 | some (x, y, v), h2, h3 =>
  obtain ⟨rfl, rfl, a1, a2, hd⟩ := id h2
  refine (H5 (p := p) (r := r) a1 hr zz).mono fun e w1 ⟨u, he, hv, hM⟩ => ⟨u, he, _, hv, ?_⟩
  obtain ⟨x', b1, b2, b3, b4⟩ := hM.out
  have s3 := b3.size
  exact (Uf (p := p) (r := r) (a2.upd b3 fun b hb hx => hd b hx hb) hr (by omega)).mono fun e w2 ⟨u, he, hv, hR⟩ => ⟨u, he, _, hv, Game.steps h1 h2 h3 h4 h5 (P8 zz a1 a2 hd hM hR)⟩
theorem Uj {w0 w : World} {pa pb qa qb : Option Addr} {N : Nat} {p : Int} {on : Bool} (hG : Game w0 w pa pb qa qb N) :
  Aa Tryz.prog 18 [.pointer qa, .int .i64 p, .bool on] w (Rets fun u w1 => ∃ e, u = .int .i64 e ∧ Aa Tryz.prog 19 [.pointer qb, .int .i64 p, .bool on] w1 (Rets fun u' w2 => ∃ e', u' = .int .i64 e' ∧ Game w0 w2 pa pb qa qb N)) := by
 obtain ⟨⟨wt, st, h1, h2, h3, h4⟩, h5⟩ := id hG
 have zz := h5.size
 match st, h2, h3 with
 | none, h2, h3 =>
  obtain ⟨rfl, rfl⟩ := h2
  exact Vy.mono fun e w1 ⟨v, he, hv, hg⟩ => ⟨v, he, 2, hv, Ui.mono fun e w2 ⟨v, he, hv, hg2⟩ => ⟨v, he, 2, hv, (hG.more hg).more hg2⟩⟩
 | some (x, y, v), h2, h3 =>
  obtain ⟨rfl, rfl, a1, a2, hd⟩ := id h2
  refine (Yb (p := p) (on := on) a1).mono fun e w1 ⟨u, he, hv, hM⟩ => ⟨u, he, _, hv, ?_⟩
  obtain ⟨x', b1, b2, b3, b4⟩ := hM.out
  exact (Vq (p := p) (on := on) (a2.upd b3 fun b hb hx => hd b hx hb)).mono fun e w2 ⟨u, he, hv, hR⟩ => ⟨u, he, _, hv, Game.steps h1 h2 h3 h4 h5 (P8 zz a1 a2 hd hM hR)⟩
theorem Zl {w0 w : World} {pa pb qa qb : Option Addr} {N : Nat} {m : Msg} (hG : Game w0 w pa pb qa qb N) : Aa Tryz.prog 13 [.pointer pa, .pointer none, m.val] w (Rets fun u w' => u = .tuple #[.slice none 0 0, .int .i64 2] ∧ Grew w w') := by
 obtain ⟨⟨wt, st, h1, h2, h3, h4⟩, h5⟩ := hG
 match wt, h1 with
 | none, h1 => obtain ⟨rfl, rfl⟩ := h1; exact Acr (d := 0) (i := 0)
 | some (X, Y, V), h1 => obtain ⟨rfl, rfl, -⟩ := h1; exact Acp (i := 0)
def Acw (w : World) (pb : Option Addr) (u : Value) (w1 : World) : Prop :=
 ∃ a n c, u = .slice a n c ∧ Aa Tryz.prog 22 [.pointer pb] w1 (Rets fun u' w2 => ∃ a' n' c', u' = .slice a' n' c' ∧ Grew w w2 ∧ ∃ xs ys, Km w2 a n c xs ∧ Km w2 a' n' c' ys ∧ xs.map (·.c) = ys.map (·.c) ∧ xs.length ≤ 1048576)
theorem Zm {V : Ac} (hV : V.Ok) : ∀ t ∈ V.tell, t.ends.length ≤ 1048576 := by
 intro t ht
 unfold Ac.tell at ht
 obtain ⟨k, hk, rfl⟩ := List.mem_map.1 ht
 obtain ⟨a, ha⟩ := H9 (Dx.1 hk)
 rw [ha]
 have := (hV.atts _ (Cm ha)).ends.1
 exact Nat.le_trans this (by decide)
theorem Uk {w : World} {B : Nat} {a : Option Addr} {n c : Nat} {hs : List Hp} {V : Ac} (h : HO w B a n c hs) (hV : V.Ok) (hc : hs.map (·.c) = V.tell) : Km w a n c hs :=
 ⟨h.own.reads, fun x hx => ⟨(h.each x hx).reads, Zm hV _ (by rw [← hc]; exact List.mem_map_of_mem (f := (·.c)) hx)⟩⟩
theorem Rm {w0 w : World} {pa pb qa qb : Option Addr} {N : Nat} (hG : Game w0 w pa pb qa qb N) (hN : N ≤ 50000) : Aa Tryz.prog 21 [.pointer pa] w (Rets (Acw w pb)) := by
 obtain ⟨⟨wt, st, h1, h2, h3, h4⟩, h5⟩ := hG
 match wt, h1, h4 with
 | none, h1, h4 =>
  obtain ⟨rfl, rfl⟩ := h1
  refine sx21n.ok ?_
  unfold sx21n
  refine ⟨_, rfl, none, 0, 0, rfl, ?_⟩
  refine sx22n.ok ?_
  unfold sx22n
  intro b1 w2 hal2
  refine ⟨fun a l c i w' => a = some ⟨b1, 0, none⟩ ∧ l = 0 ∧ c = 0 ∧ w' = w2, fun _ _ _ _ _ => 0, ⟨rfl, rfl, rfl, rfl⟩, ?_⟩
  rintro a4 l4 c4 n5 w6 ⟨rfl, rfl, rfl, rfl⟩
  exact ⟨_, rfl, _, _, _, rfl, hal2.grew, [], [], ⟨(Own.nil _ 0 0 Enc.held).reads, fun x hx => (by simp at hx)⟩, ⟨(Own.alloc (E := Enc.held) (l := []) hal2 (Nat.le_refl _) rfl (by simp [maxLen])).reads, fun x hx => (by simp at hx)⟩, rfl, by simp⟩
 | some (X, Y, V), h1, h4 =>
  obtain ⟨rfl, rfl, hX, hY, hXY⟩ := h1
  have hV : V.held.length ≤ N := h4
  refine (T3 hX (by omega)).mono fun e w1 ⟨v, he, a, n, c, hs, hv, hO, hc, hg1⟩ => ⟨v, he, a, n, c, hv, ?_⟩
  refine (Y9 (hY.grew hg1) (by omega)).mono fun e w2 ⟨v, he, a', n', c', hs', hv, hO', hc', hg2⟩ => ⟨v, he, a', n', c', hv, hg1.trans hg2, hs, hs', (Uk hO hX.ok hc).grew hg2, Uk hO' hX.ok hc', by rw [hc, hc'], ?_⟩
  have := congrArg List.length hc
  rw [List.length_map, Ac.tell_len] at this
  omega
theorem Zn {w w' : World} {p : Bd} {node : Int} {u : Value} (h : NewW w p node u w') : ∃ (a : Option Addr) (e : Int), u = .tuple #[.pointer a, .int .i64 e] := by
 obtain ⟨-, ⟨-, hv⟩ | ⟨-, -, hv⟩ | ⟨-, -, x, hv, -⟩⟩ := h
 ·exact ⟨_, _, hv⟩
 ·exact ⟨_, _, hv⟩
 ·exact ⟨_, _, hv⟩
theorem Zo {w0 w1 w2 w3 : World} {p : Bd} {node : Int} {u u' : Value} (hg : Grew w0 w1) (h : NewW w1 p node u w2) (h' : Aek w2 p node u' w3) : ∃ (pa pb : Option Addr) (e : Int) (t : Nl), u = .tuple #[.pointer pa, .int .i64 e] ∧ u' = .tuple #[.pointer pb, .int .i64 e] ∧ Option.isNone pa = Option.isNone pb ∧ Gz w0 w3 pa pb t ∧ Vz t = 0 ∧ Grew w1 w3 := by
 obtain ⟨g1, c⟩ := h
 obtain ⟨g2, c'⟩ := h'
 have hgg := g1.trans g2
 have s1 := hg.size
 have s2 := g1.size
 rcases c with ⟨hp, hv⟩ | ⟨hp, hc, hv⟩ | ⟨hp, hc, x, hv, hS⟩
 ·rcases c' with ⟨-, hv'⟩ | ⟨hp', -⟩ | ⟨hp', -⟩
  ·exact ⟨none, none, _, none, hv, hv', rfl, ⟨rfl, rfl⟩, rfl, hgg⟩
  ·rw [hp] at hp'; cases hp'
  ·rw [hp] at hp'; cases hp'
 ·rcases c' with ⟨hp', -⟩ | ⟨-, -, hv'⟩ | ⟨-, hc', -⟩
  ·rw [hp] at hp'; cases hp'
  ·exact ⟨none, none, 170, none, hv, hv', rfl, ⟨rfl, rfl⟩, rfl, hgg⟩
  ·exact (hc hc').elim
 ·rcases c' with ⟨hp', -⟩ | ⟨-, hc', -⟩ | ⟨-, -, y, hv', hR⟩
  ·rw [hp] at hp'; cases hp'
  ·exact (hc' hc).elim
  ·refine ⟨some ⟨x.p, 0, none⟩, some ⟨y.q, 0, none⟩, 0, some (x, y, ⟨p, node, []⟩), hv, hv', rfl, ⟨rfl, rfl, Bg.base (hS.grew g2) s1, hR.base (by omega), fun b hb hb' => ?_⟩, rfl, hgg⟩
   have := (hS.foot hb).2; have := (hR.foot hb').1; omega
structure OpW where
 kind : Int
 p : Int
 off : Bool
 r : RecV
 m : Msg
def Enc.opw : Enc OpW := ⟨14, fun x => .int .i64 x.kind :: .int .i64 x.p :: .bool x.off :: .int .u64 x.r.key :: .float .f64 x.r.val :: x.m.vals, fun _ => rfl, by decide, fun x v h => by simp [Msg.vals] at h; rcases h with rfl | rfl | rfl | rfl | rfl | rfl | rfl | rfl | rfl | rfl | rfl | rfl | rfl | rfl <;> rfl⟩
structure Aem (w : World) (x : OpW) : Prop where
 at_ : x.m.At w
 r : x.r.Fits
 e : x.m.c.ends.length ≤ 9223372036854775806
 k : x.m.c.keys.length ≤ 9223372036854775806
 p : x.m.c.pairs.length ≤ 9223372036854775806
structure V1 (w : World) (x : Plan) : Prop where
 plan : x.At w
 ops : ∀ o ∈ x.c.ops, o.Fits
set_option maxHeartbeats 4000000 in
theorem Qd {x : Plan} {node : Int} {b : Option Addr} {m k : Nat} {os : List OpW} {w : World} (hx : V1 w x) (hd : (Lit.int .i64 node).wf = true) (hi : Reads w Enc.opw (b, m, k) os) (hf : ∀ x ∈ os, Aem w x) (hni : os.length ≤ maxLen) (hbi : os.length * 160 ≤ 140737488351232) :
  Aa Tryz.prog 3 [x.val, .int .i64 node, .slice b m k] w (Rets fun v w' => v = .bool true ∧ Grew w w') := by
 refine sx3.ok ?_
 unfold sx3
 have hm : m = os.length := hi.2.1
 subst hm
 intro w1 hg1
 refine Ze.use fun v w2 ⟨hv, hg2⟩ => ?_
 subst hv
 have hg2 := hg1.trans hg2
 refine ⟨_, rfl, fun h => (by cases h), fun _ => ?_⟩
 refine (Wx (x := x) (node := node) (hx.plan.grew hg2) hx.ops).use fun u6 w6 hN6 => ?_
 have hg6 := hg2.trans hN6.1
 obtain ⟨pa, e6, hu6⟩ := Zn hN6
 refine ⟨pa, e6, hu6, (Acd (x := x) (node := node) (hx.plan.grew hg6) hx.ops).use fun u11 w11 hN11 => ?_⟩
 obtain ⟨p1, q1, e1, t1, hu, hu', hiso, hT1, hh1, hg15⟩ := Zo hg2 hN6 hN11
 rw [hu6] at hu
 simp only [Value.tuple.injEq, Array.mk.injEq, List.cons.injEq, Value.pointer.injEq, Value.int.injEq, and_true, true_and] at hu
 obtain ⟨rfl, rfl⟩ := hu
 have hg11 := hg2.trans hg15
 refine ⟨q1, e6, hu', fun h => (by simp at h), fun _ => ⟨fun h => (by rw [hiso] at h; simp at h), fun _ => ?_⟩⟩
 refine (Ws (parts := x.c.parts) (hx.plan.grew hg11) hx.ops).use fun u16 w16 hN16 => ?_
 have hg16 := hg11.trans hN16.1
 obtain ⟨pa2, e16, hu16⟩ := Zj hN16
 refine ⟨pa2, e16, hu16, (Ady (parts := x.c.parts) (hx.plan.grew hg16) hx.ops).use fun u21 w21 hN21 => ?_⟩
 obtain ⟨p2, q2, e2, t2, hu2, hu2', hiso2, hT2, hg1121, hF2, -⟩ := Acv hg11 hN16 hN21
 rw [hu16] at hu2
 simp only [Value.tuple.injEq, Array.mk.injEq, List.cons.injEq, Value.pointer.injEq, Value.int.injEq, and_true, true_and] at hu2
 obtain ⟨rfl, rfl⟩ := hu2
 refine ⟨q2, e16, hu2', fun h => (by simp at h), fun _ => ⟨fun h => (by rw [hiso2] at h; simp at h), fun _ => ?_⟩⟩
 have G0 : Game w w21 pa q1 pa2 q2 0 := by
  refine ⟨⟨t1, t2, hT1.upd (hg1121.upd (S := fun _ => False)) (fun _ _ h => h), hT2, fun b hb hb2 => ?_, by omega⟩, hg11.trans hg1121⟩
  have := (hT1.foot hb).2; have := hF2 b hb2; omega
 refine ⟨fun i w' => ∃ j : Nat, i = j ∧ j ≤ os.length ∧ j ≤ 1000 ∧ Game w w' pa q1 pa2 q2 j, fun i _ => os.length - i.toNat, ⟨0, rfl, Nat.zero_le _, by omega, G0⟩, ?_⟩
 rintro n27 w28 ⟨j, rfl, hj, hj1, G28⟩
 have hg28 := G28.grew
 have fin : Aa Tryz.prog 21 [.pointer pa] w28 (RetR (Rets fun v w' => v = .bool true ∧ Grew w w') fun u95 w94 => ∃ (a96 : Option Addr) (l96 c96 : Nat), u95 = .slice a96 l96 c96 ∧ Aa Tryz.prog 22 [.pointer q1] w94 (RetR (Rets fun v w' => v = .bool true ∧ Grew w w') fun u99 w98 => ∃ (a100 : Option Addr) (l100 c100 : Nat), u99 = .slice a100 l100 c100 ∧ Aa Tryz.prog 20 [.slice a96 l96 c96, .slice a100 l100 c100] w98 (RetR (Rets fun v w' => v = .bool true ∧ Grew w w') fun u103 w102 => ∃ (b104 : Bool), u103 = .bool b104 ∧ Rets (fun v w' => v = .bool true ∧ Grew w w') (.returned (.bool b104)) w102))) := by
  refine (Rm G28 (by omega)).use fun u w94 ⟨a, n, c, hv, hT⟩ => ⟨a, n, c, hv, hT.use fun u w98 ⟨a', n', c', hv, hg98, xs, ys, h1, h2, h3, h4⟩ => ⟨a', n', c', hv, (Sm h1 h2 h3 h4).use fun u w102 ⟨hv, hg⟩ => ⟨true, hv, _, rfl, rfl, hg28.trans (hg98.trans hg)⟩⟩⟩
 refine ⟨fun hlt => ⟨fun hlt2 => ?_, fun _ => fin⟩, fun _ => fin⟩
 simp only [decide_eq_true_eq] at hlt hlt2
 have hw : IntKind.i64.wrap ((j : Int) + 1) = ((j + 1 : Nat) : Int) := by rw [IntKind.wrap_i64]; omega
 obtain ⟨da, o, hda, ho, hoc⟩ := (hi.grew hg28).at0 (k := j) (by omega)
 have hok := hf o (List.mem_of_getElem? ho)
 rw [hda, Ab]
 refine ⟨⟨by omega, by omega⟩, _, _, _, _, _, _, _, _, _, _, _, _, _, _, _, _, _, _, _, _, hoc, fun w44 hg44 => ?_⟩
 have G44 := G28.more hg44
 refine ⟨fun w' => Game w w' pa q1 pa2 q2 (j + 1), ⟨fun _ => ?_, fun _ => ⟨fun _ => ?_, fun _ => ⟨fun _ => ?_, fun _ => ⟨fun _ => ?_, fun _ => G44.up (by omega)⟩⟩⟩⟩, ?_⟩
 ·refine (Zh (m := o.m) G44 hok.at_ hok.e hok.k hok.p (by omega)).use fun u w46 ⟨a, n, c, e, hv, hT⟩ => ⟨a, n, c, e, hv, hT.use fun u w51 ⟨a', n', c', hv, hG', xs, ys, h1, h2, h3, h4⟩ => ⟨a', n', c', e, hv, fun h => (by simp at h), fun _ => (Nw h1 h2 h3 h4).use fun u w56 ⟨hv, hg⟩ => ⟨true, hv, fun h => (by cases h), fun _ => hG'.more hg⟩⟩⟩
 ·exact (Zk (p := o.p) (r := o.r) G44 hok.r).use fun u w60 ⟨e, hv, hT⟩ => ⟨e, hv, hT.use fun u w64 ⟨e', hv, hG'⟩ => ⟨e', hv, hG'.up (by omega)⟩⟩
 ·exact (Uj (p := o.p) (on := !o.off) G44).use fun u w60 ⟨e, hv, hT⟩ => ⟨e, hv, hT.use fun u w64 ⟨e', hv, hG'⟩ => ⟨e', hv, hG'.up (by omega)⟩⟩
 ·exact (Zl (m := o.m) G44).use fun u w76 ⟨hv, hg⟩ => ⟨none, 0, 0, 2, hv, fun h => (by simp at h), fun _ => ⟨fun h => (by simp at h), fun _ => (G44.more hg).up (by omega)⟩⟩
 ·intro w81 G81
  refine (Rm G81 (by omega)).use fun u w82 ⟨a, n, c, hv, hT⟩ => ⟨a, n, c, hv, hT.use fun u w86 ⟨a', n', c', hv, hg86, xs, ys, h1, h2, h3, h4⟩ => ⟨a', n', c', hv, (Sm h1 h2 h3 h4).use fun u w90 ⟨hv, hg⟩ => ⟨true, hv, fun h => (by cases h), fun _ => ⟨⟨j + 1, hw, by omega, by omega, (G81.more hg86).more hg⟩, by simp only [hw]; omega⟩⟩⟩⟩
theorem Ul : Fq Tryz.prog 6 83 = some [.int .u64, .bool, .int .u64] := by kernel_rfl
theorem V2 : Fq Tryz.prog 2 40 = some [.int .u64] := by kernel_rfl
theorem Zp : Fq Tryz.prog 8 50 = some [.int .i64, .int .i64, .bool, .int .u64, .float .f64, .int .i64, .int .i64, .int .i64, .int .i64, .int .i64, .int .i64, .sub 44, .sub 45, .sub 46] := by kernel_rfl
theorem Um : Fq Tryz.prog 8 24 = some [.int .i64, .int .i64, .int .i64, .sub 22, .int .i64, .int .i64, .int .i64, .int .i64] := by kernel_rfl
def Enc.planX : Enc Plan := ⟨8, Plan.vals, fun _ => rfl, by decide, fun x v h => by simp [Plan.vals] at h; rcases h with rfl | rfl | rfl | rfl | rfl | rfl | rfl | rfl <;> rfl⟩
section
open Go.ChangeShapes Go.WideShapes Go.RowKit
variable {H : Type} {enc : TypeId × Value → H}
theorem Ad7 {S : TypeId → Value → Prop} (cs : List Value) (h : Kf S [.int .u64] cs) : ∃ x : Int, cs = (Enc.int .u64).f x ∧ True := by
 obtain ⟨hl, h⟩ := h
 match cs, hl with
 | [c0], _ =>
  obtain ⟨_, e0, n0, rfl, w0⟩ := h 0 _ rfl
  simp at e0; subst e0
  exact ⟨n0, rfl, trivial⟩
theorem Acx {S : TypeId → Value → Prop} (cs : List Value) (h : Kf S [.int .u64, .bool, .int .u64] cs) : ∃ x : Am, cs = Enc.pair.f x ∧ True := by
 obtain ⟨hl, h⟩ := h
 match cs, hl with
 | [c0, c1, c2], _ =>
  obtain ⟨_, e0, n0, rfl, w0⟩ := h 0 _ rfl
  obtain ⟨_, e1, b1, rfl⟩ := h 1 _ rfl
  obtain ⟨_, e2, n2, rfl, w2⟩ := h 2 _ rfl
  simp at e0 e1 e2; subst e0; subst e1; subst e2
  exact ⟨⟨n0, b1, n2⟩, rfl, trivial⟩
theorem Ae3 {w : World} {spare : Nat → Bool} {held : Bool} (cs : List Value) (h : Kf (Sub enc Tryz.prog w spare held) [.int .i64, .int .i64, .bool, .int .u64, .float .f64, .int .i64, .int .i64, .int .i64, .int .i64, .int .i64, .int .i64, .sub 44, .sub 45, .sub 46] cs) : ∃ x : OpW, cs = Enc.opw.f x ∧ Aem w x := by
 obtain ⟨hl, h⟩ := h
 match cs, hl with
 | [c0, c1, c2, c3, c4, c5, c6, c7, c8, c9, c10, c11, c12, c13], _ =>
  obtain ⟨_, e0, n0, rfl, w0⟩ := h 0 _ rfl
  obtain ⟨_, e1, n1, rfl, w1⟩ := h 1 _ rfl
  obtain ⟨_, e2, n2, rfl⟩ := h 2 _ rfl
  obtain ⟨_, e3, n3, rfl, w3⟩ := h 3 _ rfl
  obtain ⟨_, e4, n4, rfl, w4⟩ := h 4 _ rfl
  obtain ⟨_, e5, n5, rfl, w5⟩ := h 5 _ rfl
  obtain ⟨_, e6, n6, rfl, w6⟩ := h 6 _ rfl
  obtain ⟨_, e7, n7, rfl, w7⟩ := h 7 _ rfl
  obtain ⟨_, e8, n8, rfl, w8⟩ := h 8 _ rfl
  obtain ⟨_, e9, n9, rfl, w9⟩ := h 9 _ rfl
  obtain ⟨_, e10, n10, rfl, w10⟩ := h 10 _ rfl
  obtain ⟨v11, e11, h11⟩ := h 11 _ rfl
  obtain ⟨v12, e12, h12⟩ := h 12 _ rfl
  obtain ⟨v13, e13, h13⟩ := h 13 _ rfl
  simp at e0 e1 e2 e3 e4 e5 e6 e7 e8 e9 e10 e11 e12 e13
  subst e0; subst e1; subst e2; subst e3; subst e4; subst e5; subst e6; subst e7; subst e8; subst e9; subst e10; subst e11; subst e12; subst e13
  obtain ⟨a6, m6, c6, l6, rfl, r6, o6, -, b6⟩ := Jb (show Sub enc Tryz.prog w spare held 44 c11 from h11) (by kernel_rfl) V0 (by kernel_rfl) (B := 8) (by kernel_rfl) (E := Enc.int .i64) rfl Ad6
  obtain ⟨a7, m7, c7, l7, rfl, r7, o7, -, b7⟩ := Jb (show Sub enc Tryz.prog w spare held 45 c12 from h12) (by kernel_rfl) V2 (by kernel_rfl) (B := 8) (by kernel_rfl) (E := Enc.int .u64) rfl Ad7
  obtain ⟨a8, m8, c8, l8, rfl, r8, o8, -, b8⟩ := Jb (show Sub enc Tryz.prog w spare held 46 c13 from h13) (by kernel_rfl) Ul (by kernel_rfl) (B := 24) (by kernel_rfl) (E := Enc.pair) rfl Acx
  refine ⟨⟨n0, n1, n2, ⟨n3, n4⟩, ⟨⟨n5, n6, n7, n8, n9, n10, l6, l7, l8⟩, (a6, m6, c6), (a7, m7, c7), (a8, m8, c8)⟩⟩, rfl, ⟨r6, r7, r8⟩, ?_, by simp only; omega, by simp only; omega, by simp only; omega⟩
  simp [Lit.wf, IntKind.min, IntKind.max, IntKind.signed, IntKind.bits] at w3 w4
  refine ⟨⟨?_, ?_⟩, ?_⟩ <;> simp only [u64m] <;> omega
theorem Ad8 {w : World} {spare : Nat → Bool} {held : Bool} (cs : List Value) (h : Kf (Sub enc Tryz.prog w spare held) [.int .i64, .int .i64, .int .i64, .sub 22, .int .i64, .int .i64, .int .i64, .int .i64] cs) : ∃ x : Plan, cs = Enc.planX.f x ∧ V1 w x := by
 obtain ⟨hl, h⟩ := h
 match cs, hl with
 | [c0, c1, c2, c3, c4, c5, c6, c7], _ =>
  obtain ⟨_, e0, n0, rfl, -⟩ := h 0 _ rfl
  obtain ⟨_, e1, n1, rfl, -⟩ := h 1 _ rfl
  obtain ⟨_, e2, n2, rfl, -⟩ := h 2 _ rfl
  obtain ⟨v3, e3, h3⟩ := h 3 _ rfl
  obtain ⟨_, e4, n4, rfl, -⟩ := h 4 _ rfl
  obtain ⟨_, e5, n5, rfl, -⟩ := h 5 _ rfl
  obtain ⟨_, e6, n6, rfl, -⟩ := h 6 _ rfl
  obtain ⟨_, e7, n7, rfl, -⟩ := h 7 _ rfl
  simp at e0 e1 e2 e3 e4 e5 e6 e7
  subst e0; subst e1; subst e2; subst e3; subst e4; subst e5; subst e6; subst e7
  obtain ⟨a, n, c, l, rfl, hr, hf, hlen, hb⟩ := Jb (show Sub enc Tryz.prog w spare held 22 c3 from h3) (by kernel_rfl) Zi (by kernel_rfl) (B := 24) (by kernel_rfl) (E := Enc.op3) rfl Ae2
  exact ⟨⟨⟨n0, n1, n2, l, n4, n5, n6, n7⟩, (a, n, c)⟩, rfl, hr, hf⟩
theorem Acy {ts : List TypeId} {ds : List (DataW H)} (hz : (DataW.weightsEach Tryz.prog ts ds).all (· ≤ reachBytes) = true) {j : Nat} (htj : ts[j]? = some 24) {dt : DataW H} (hdj : ds[j]? = some dt) {w : World} {spare : Nat → Bool} {held : Bool} {v : Value} {ps : List MemPlace}
  {r : Reach} {b0 : Nat} (hval : Value.okWide Tryz.prog w r b0 24 v) (h : DataW.Trod enc Tryz.prog w 0 spare held 24 v dt ps) : ∃ x : Plan, v = x.val ∧ V1 w x := by
 obtain ⟨x, rfl, hx⟩ := U4 hz htj hdj (by kernel_rfl) Um hval h (E := Enc.planX) Ad8
 exact ⟨x, rfl, hx⟩
end
open Go.ChangeShapes Go.WideShapes Go.ChangeAt Go.RowKit
set_option maxRecDepth 100000 in
theorem workerExact_lifted (os : Os) (started : os.Started) (H : Type) (enc : TypeId × Value → H) :
  ReturnsInHanded {} Tryz.checked os 3 .any (Rows.workerExactSpec.pre6 enc Tryz.prog Tryz.f3 Rows.workerExactRow.domain false) (Rows.workerExactSpec.post enc Tryz.prog Tryz.f3 false true false false) := by
 refine returnsInHanded_of_change_sized (C := Tryz.checked) (by kernel_rfl) started (by kernel_rfl) Tryz.func3
  (ChangeSpec.witness6 (enc := enc) (C := Tryz.checked) false ⟨#[], #[.agg #[.int .i64 0, .int .i64 0, .int .i64 0, .slice none 0 0, .int .i64 0, .int .i64 0, .int .i64 0, .int .i64 0], .int .i64 0, .slice none 0 0], []⟩ 8 (by kernel_rfl) (by kernel_rfl) (by kernel_rfl) (by kernel_rfl)) ?_
 intro W base args ds gs before hval0 hW hcnd hsz0 _
 have hval : ∀ (j : Nat) t v, Tryz.f3.params[j]? = some t → args[j]? = some v → Value.okWide Tryz.prog W .any base t v := hval0
 have hW' := hW
 obtain ⟨p, q, hA0, hV, rfl, hfz, hnd⟩ := hW
 have hA : DataW.TrodAll enc Tryz.prog W 0 (fun _ => true) true Tryz.f3.params.toList args.toList ds p := hA0
 have hsz : (DataW.weightsEach Tryz.prog (Tryz.f3.params.toList ++ _) (ds ++ gs)).all (· ≤ reachBytes) = true := hsz0
 rw [show Tryz.f3.params = #[24, 3, 25] from by kernel_rfl] at hA hval hsz
 have hA1 := hA
 obtain ⟨v0, vs0, d0, ds0, p0, q0, hargs, rfl, rfl, h0, r0⟩ := trodAll_cons hA
 obtain ⟨v1, vs1, d1, ds1, p1, q1, rfl, rfl, rfl, h1, r1⟩ := trodAll_cons r0
 obtain ⟨v2, vs2, d2, ds2, p2, q2, rfl, rfl, rfl, h2, r2⟩ := trodAll_cons r1
 obtain ⟨rfl, rfl, rfl⟩ := trodAll_nil r2
 obtain rfl : args = #[v0, v1, v2] := by cases args; simp_all
 obtain ⟨x0, rfl, hx0⟩ := Acy (j := 0) hsz rfl rfl (hval 0 24 v0 rfl rfl) h0
 obtain ⟨x1, rfl, hcl1⟩ := Go.Sx.open_int (P := Tryz.prog) (k := .i64) (t := 3) (by kernel_rfl) (hval 1 3 v1 rfl rfl) h1
 obtain ⟨a2, n2, c2, l2, rfl, hr2, hcl2, hn2, hb2⟩ := Jb (P := Tryz.prog) (t := 25) (e := 50) (Adh (e := 50) (j := 2) hsz rfl rfl (by kernel_rfl) (hval 2 25 v2 rfl rfl) h2) (by kernel_rfl) Zp (by kernel_rfl) (B := 160) (by kernel_rfl) (E := Enc.opw) rfl Ae3
 clear hA0 hA1 hval0 hsz0
 refine (Aa.calls ⟨_, Tryz.func3, by kernel_rfl, by kernel_rfl⟩ (Qd hx0 hcl1 hr2 hcl2 hn2 hb2)).mono fun e W' ⟨w', hh, hk, v, he, hv, hg⟩ => ?_
 subst he; subst hv
 exact ⟨_, rfl, Xw (tb := 4) (by kernel_rfl) rfl (by kernel_rfl) (by kernel_rfl) ⟨rfl, rfl, rfl⟩ (by decide +kernel) hW' (Aaq hg hh hk)⟩
theorem workerExact_holds : Rows.WorkerExactSaid :=
 OpenClaim.holds_of_wide 3 Tryz.f3 rfl rfl rfl rfl rfl rfl rfl ⟨rfl, rfl, rfl, rfl, rfl⟩ rfl rfl rfl rfl rfl (by kernel_rfl) Tryz.func3 (by kernel_rfl)
  (of_decide_eq_true (by kernel_rfl)) (by unfold Func.isWrapper; first | (rw [if_pos (by decide +kernel)]; kernel_rfl) | (rw [if_neg (by decide +kernel)]; exact ⟨rfl, rfl⟩))
  (fun os started H enc _ => workerExact_lifted os started H enc)
end Go.Proofs.YtcpkneemhfnanaaGreat
