/- The reference's worker: MsgAssign. Conditions: none. -/
import Derived.Test.YtcpkneemhfnanaaGreatProg
import Derived.Test.YtcpkneemhfnanaaGreatRWorkC
namespace Go.Proofs.YtcpkneemhfnanaaGreat
open Go.Sx
set_option maxRecDepth 100000
set_option linter.unusedVariables false
set_option linter.unusedSimpArgs false
def sx49_a (b13 : Bool) (w56 : World) (d : Nat) (n4 p2_3 p2_4 : Int) (a26 : Option Addr) (l26 c26 : Nat) (a51 : Option Addr) (l51 c51 : Nat) (a55 : Option Addr) (l55 c55 : Nat) (p2_0 p2_1 p2_2 p2_5 : Int) (p2_6 : Option Addr) (p2_6_n p2_6_c : Nat) (p2_7 : Option Addr) (p2_7_n p2_7_c : Nat) (p2_8 : Option Addr) (p2_8_n p2_8_c : Nat) (R : Ending → World → Prop) : Prop :=
 ∃ J57 : World → Prop, (ifB (!b13) (∀ b58 w59, Ag w56 w59 b58 (.cells #[] 144) → ∃ a60 l60 c60, w59.cell? ⟨d, 9, none⟩ = some (.slice a60 l60 c60) ∧ (0 ≤ n4 ∧ n4 ≤ (c60 : Nat)) ∧ SemW Tryz.prog (Builtin.append_ #[105, 105] 105 #[.slice (some ⟨b58, 0, none⟩) 0 0, .slice a60 n4.toNat c60]) (fun u62 w61 => ∃ a63 l63 c63, u62 = .slice a63 l63 c63 ∧ ∀ b64 w65, Ag w61 w65 b64 (.cells #[.int .i64 0, .int .i64 0, .slice none 0 0, .slice none 0 0, .bool false, .slice none 0 0] 144) → SemW Tryz.prog (Builtin.append_ #[105, 105] 105 #[.slice a63 l63 c63, .slice (some ⟨b64, 0, none⟩) 1 1]) (fun u67 w66 => ∃ a68 l68 c68, u67 = .slice a68 l68 c68 ∧ ∃ a69 l69 c69, w66.cell? ⟨d, 9, none⟩ = some (.slice a69 l69 c69) ∧ (0 ≤ n4 ∧ n4 ≤ (l69 : Nat)) ∧ SemW Tryz.prog (Builtin.append_ #[105, 105] 105 #[.slice a68 l68 c68, .slice (if c69 = n4.toNat then a69 else Option.map (fun x => Addr.add x (n4.toNat * 6)) a69) (l69 - n4.toNat) (c69 - n4.toNat)]) (fun u71 w70 => ∃ a72 l72 c72, u71 = .slice a72 l72 c72 ∧ Af w70 ⟨d, 9, none⟩ 0 [.slice a72 l72 c72] ∧ ∀ w73, w73 = setCells w70 ⟨d, 9, none⟩ 0 [.slice a72 l72 c72] → J57 w73) w66) w65) w59) (J57 w56)) ∧ ∀ w74, J57 w74 → ∀ w75, Grew w74 w75 → ∃ a76 l76 c76, w75.cell? ⟨d, 9, none⟩ = some (.slice a76 l76 c76) ∧ Ab a76 (fun d77 => (0 ≤ n4 ∧ n4 < (l76 : Nat)) ∧ Af w75 (Addr.add d77 (n4.toNat * 6)) 0 [.int .i64 p2_3, .int .i64 p2_4, .slice a26 l26 c26, .slice a51 l51 c51, .bool false, .slice a55 l55 c55] ∧ ∀ w78, w78 = setCells w75 (Addr.add d77 (n4.toNat * 6)) 0 [.int .i64 p2_3, .int .i64 p2_4, .slice a26 l26 c26, .slice a51 l51 c51, .bool false, .slice a55 l55 c55] → Aa Tryz.prog 101 [.pointer (some ⟨d, 0, none⟩), .int .i64 2, .int .i64 0, .agg #[.int .i64 p2_0, .int .i64 p2_1, .int .i64 p2_2, .int .i64 p2_3, .int .i64 p2_4, .int .i64 p2_5, .slice p2_6 p2_6_n p2_6_c, .slice p2_7 p2_7_n p2_7_c, .slice p2_8 p2_8_n p2_8_c]] w78 (RetR R fun u80 w79 => ∃ n81 n82 n83 n84 n85 n86 a87 l87 c87 a88 l88 c88 a89 l89 c89, u80 = .agg #[.int .i64 n81, .int .i64 n82, .int .i64 n83, .int .i64 n84, .int .i64 n85, .int .i64 n86, .slice a87 l87 c87, .slice a88 l88 c88, .slice a89 l89 c89] ∧ ∀ w91, Grew w79 w91 → Aa Tryz.prog 61 [.slice a26 l26 c26] w91 (RetR R fun u93 w92 => ∃ a94 l94 c94, u93 = .slice a94 l94 c94 ∧ ∀ b96 w97, Ag w92 w97 b96 (.cells #[.int .i64 n81, .int .i64 n82, .int .i64 n83, .int .i64 n84, .int .i64 n85, .int .i64 n86, .slice a94 l94 c94, .slice a88 l88 c88, .slice a89 l89 c89] 48) → R (.returned (.slice (some ⟨b96, 0, none⟩) 1 1)) w97)))
def sx49 (d i : Nat) (p2_0 p2_1 p2_2 p2_3 p2_4 p2_5 : Int) (p2_6 : Option Addr) (p2_6_n p2_6_c : Nat) (p2_7 : Option Addr) (p2_7_n p2_7_c : Nat) (p2_8 : Option Addr) (p2_8_n p2_8_c : Nat) (R : Ending → World → Prop) (w : World) : Prop :=
  ∀ w1, Grew w w1 → Aa Tryz.prog 97 [.pointer (some ⟨d, 0, none⟩), .int .i64 p2_3] w1 (RetR R fun u3 w2 => ∃ n4, u3 = .int .i64 n4 ∧ ∃ J6 : Bool → World → Prop, (∃ a7 l7 c7, w2.cell? ⟨d, 9, none⟩ = some (.slice a7 l7 c7) ∧ ifB (decide (n4 < ((l7 : Nat) : Int))) (∃ a8 l8 c8, w2.cell? ⟨d, 9, none⟩ = some (.slice a8 l8 c8) ∧ Ab a8 (fun d9 => (0 ≤ n4 ∧ n4 < (l8 : Nat)) ∧ ∃ n10, w2.cell? (Addr.add d9 (n4.toNat * 6)) = some (.int .i64 n10) ∧ ∀ w11, Grew w2 w11 → J6 (n10 == p2_3) w11)) (∀ w12, Grew w2 w12 → J6 false w12)) ∧ ∀ b13 w14, J6 b13 w14 → ∃ J15 : World → Prop, (ifB b13 (∃ a16 l16 c16, w14.cell? ⟨d, 9, none⟩ = some (.slice a16 l16 c16) ∧ Ab a16 (fun d17 => (0 ≤ n4 ∧ n4 < (l16 : Nat)) ∧ ∃ n18, w14.cell? (Addr.add (Addr.add d17 (n4.toNat * 6)) 1) = some (.int .i64 n18) ∧ ∀ w19, Grew w14 w19 → ifB (decide (n18 ≥ p2_4)) (R (.returned (.slice none 0 0)) w19) (J15 w19))) (∀ w20, Grew w14 w20 → J15 w20)) ∧ ∀ w21, J15 w21 → ∀ w22, Grew w21 w22 → ∃ n23, w22.cell? ⟨d, 5, none⟩ = some (.int .i64 n23) ∧ Aa Tryz.prog 98 [.pointer (some ⟨i, 0, none⟩), .slice p2_6 p2_6_n p2_6_c, .int .i64 n23] w22 (RetR R fun u25 w24 => ∃ a26 l26 c26 a27 l27 c27 n28, u25 = .tuple #[.slice a26 l26 c26, .slice a27 l27 c27, .int .i64 n28] ∧ ifB (n28 != 0) (R (.returned (.slice none 0 0)) w24) (∀ w30, Grew w24 w30 → ∃ a31 l31 c31, w30.cell? ⟨d, 3, none⟩ = some (.slice a31 l31 c31) ∧ ∃ n32, w30.cell? ⟨d, 4, none⟩ = some (.int .i64 n32) ∧ Aa Tryz.prog 99 [.slice a31 l31 c31, .int .i64 n32, .slice a27 l27 c27] w30 (RetR R fun u34 w33 => ∃ a35 l35 c35 n36 n37, u34 = .tuple #[.slice a35 l35 c35, .int .i64 n36, .int .i64 n37] ∧ ∀ w39, Grew w33 w39 → ∃ n40 n41 n42 a43 l43 c43 n44 n45 n46 n47, Ae w39 ⟨d, 0, none⟩ 0 [.int .i64 n40, .int .i64 n41, .int .i64 n42, .slice a43 l43 c43, .int .i64 n44, .int .i64 n45, .int .i64 n46, .int .i64 n47] ∧ ∃ n48, w39.cell? ⟨d, 1, none⟩ = some (.int .i64 n48) ∧ ((Aa Tryz.prog 100 [.agg #[.int .i64 n40, .int .i64 n41, .int .i64 n42, .slice a43 l43 c43, .int .i64 n44, .int .i64 n45, .int .i64 n46, .int .i64 n47], .slice a35 l35 c35] w39 (RetR R fun u50 w49 => ∃ a51 l51 c51, u50 = .slice a51 l51 c51 ∧ Ad w39 w49 [⟨d, 1, none⟩, ⟨d, 0, none⟩] ∧ ((SemW Tryz.prog (Instr.makeSlice 72 (.int .i64 n48) (.int .i64 n48)) (fun u54 w53 => ∃ a55 l55 c55, u54 = .slice a55 l55 c55 ∧ Ad w49 w53 [⟨d, 1, none⟩, ⟨d, 0, none⟩] ∧ ∀ w56, Grew w53 w56 → Ad w53 w56 [⟨d, 1, none⟩, ⟨d, 0, none⟩] ∧ sx49_a b13 w56 d n4 p2_3 p2_4 a26 l26 c26 a51 l51 c51 a55 l55 c55 p2_0 p2_1 p2_2 p2_5 p2_6 p2_6_n p2_6_c p2_7 p2_7_n p2_7_c p2_8 p2_8_n p2_8_c R) w49) ∧ (∀ w98, Grew w49 w98 → Ad w49 w98 [⟨d, 1, none⟩, ⟨d, 0, none⟩] ∧ SemW Tryz.prog (Instr.makeSlice 72 (.int .i64 n48) (.int .i64 n48)) (fun u100 w99 => ∃ a101 l101 c101, u100 = .slice a101 l101 c101 ∧ Ad w98 w99 [⟨d, 1, none⟩, ⟨d, 0, none⟩] ∧ sx49_a b13 w99 d n4 p2_3 p2_4 a26 l26 c26 a51 l51 c51 a101 l101 c101 p2_0 p2_1 p2_2 p2_5 p2_6 p2_6_n p2_6_c p2_7 p2_7_n p2_7_c p2_8 p2_8_n p2_8_c R) w98)))) ∧
 (((SemW Tryz.prog (Instr.makeSlice 72 (.int .i64 n48) (.int .i64 n48)) (fun u144 w143 => ∃ a145 l145 c145, u144 = .slice a145 l145 c145 ∧ Ad w39 w143 [⟨d, 1, none⟩, ⟨d, 0, none⟩] ∧ ((Aa Tryz.prog 100 [.agg #[.int .i64 n40, .int .i64 n41, .int .i64 n42, .slice a43 l43 c43, .int .i64 n44, .int .i64 n45, .int .i64 n46, .int .i64 n47], .slice a35 l35 c35] w143 (RetR R fun u147 w146 => ∃ a148 l148 c148, u147 = .slice a148 l148 c148 ∧ Ad w143 w146 [⟨d, 1, none⟩, ⟨d, 0, none⟩] ∧ ∀ w150, Grew w146 w150 → Ad w146 w150 [⟨d, 1, none⟩, ⟨d, 0, none⟩] ∧ sx49_a b13 w150 d n4 p2_3 p2_4 a26 l26 c26 a148 l148 c148 a145 l145 c145 p2_0 p2_1 p2_2 p2_5 p2_6 p2_6_n p2_6_c p2_7 p2_7_n p2_7_c p2_8 p2_8_n p2_8_c R)) ∧ (∀ w192, Grew w143 w192 → Ad w143 w192 [⟨d, 1, none⟩, ⟨d, 0, none⟩] ∧ Aa Tryz.prog 100 [.agg #[.int .i64 n40, .int .i64 n41, .int .i64 n42, .slice a43 l43 c43, .int .i64 n44, .int .i64 n45, .int .i64 n46, .int .i64 n47], .slice a35 l35 c35] w192 (RetR R fun u194 w193 => ∃ a195 l195 c195, u194 = .slice a195 l195 c195 ∧ Ad w192 w193 [⟨d, 1, none⟩, ⟨d, 0, none⟩] ∧ sx49_a b13 w193 d n4 p2_3 p2_4 a26 l26 c26 a195 l195 c195 a145 l145 c145 p2_0 p2_1 p2_2 p2_5 p2_6 p2_6_n p2_6_c p2_7 p2_7_n p2_7_c p2_8 p2_8_n p2_8_c R)))) w39) ∧ (∀ w238, Grew w39 w238 → Ad w39 w238 [⟨d, 1, none⟩, ⟨d, 0, none⟩] ∧ ((Aa Tryz.prog 100 [.agg #[.int .i64 n40, .int .i64 n41, .int .i64 n42, .slice a43 l43 c43, .int .i64 n44, .int .i64 n45, .int .i64 n46, .int .i64 n47], .slice a35 l35 c35] w238 (RetR R fun u240 w239 => ∃ a241 l241 c241, u240 = .slice a241 l241 c241 ∧ Ad w238 w239 [⟨d, 1, none⟩, ⟨d, 0, none⟩] ∧ SemW Tryz.prog (Instr.makeSlice 72 (.int .i64 n48) (.int .i64 n48)) (fun u244 w243 => ∃ a245 l245 c245, u244 = .slice a245 l245 c245 ∧ Ad w239 w243 [⟨d, 1, none⟩, ⟨d, 0, none⟩] ∧ sx49_a b13 w243 d n4 p2_3 p2_4 a26 l26 c26 a241 l241 c241 a245 l245 c245 p2_0 p2_1 p2_2 p2_5 p2_6 p2_6_n p2_6_c p2_7 p2_7_n p2_7_c p2_8 p2_8_n p2_8_c R) w239)) ∧ (SemW Tryz.prog (Instr.makeSlice 72 (.int .i64 n48) (.int .i64 n48)) (fun u288 w287 => ∃ a289 l289 c289, u288 = .slice a289 l289 c289 ∧ Ad w238 w287 [⟨d, 1, none⟩, ⟨d, 0, none⟩] ∧ Aa Tryz.prog 100 [.agg #[.int .i64 n40, .int .i64 n41, .int .i64 n42, .slice a43 l43 c43, .int .i64 n44, .int .i64 n45, .int .i64 n46, .int .i64 n47], .slice a35 l35 c35] w287 (RetR R fun u291 w290 => ∃ a292 l292 c292, u291 = .slice a292 l292 c292 ∧ Ad w287 w290 [⟨d, 1, none⟩, ⟨d, 0, none⟩] ∧ sx49_a b13 w290 d n4 p2_3 p2_4 a26 l26 c26 a292 l292 c292 a289 l289 c289 p2_0 p2_1 p2_2 p2_5 p2_6 p2_6_n p2_6_c p2_7 p2_7_n p2_7_c p2_8 p2_8_n p2_8_c R)) w238))))))))))
theorem sx49.ok {d i : Nat} {p2_0 p2_1 p2_2 p2_3 p2_4 p2_5 : Int} {p2_6 : Option Addr} {p2_6_n p2_6_c : Nat} {p2_7 : Option Addr} {p2_7_n p2_7_c : Nat} {p2_8 : Option Addr} {p2_8_n p2_8_c : Nat} {R : Ending → World → Prop} {w : World} (h : sx49 d i p2_0 p2_1 p2_2 p2_3 p2_4 p2_5 p2_6 p2_6_n p2_6_c p2_7 p2_7_n p2_7_c p2_8 p2_8_n p2_8_c R w) : Aa Tryz.prog 49 [.pointer (some ⟨d, 0, none⟩), .pointer (some ⟨i, 0, none⟩), .agg #[.int .i64 p2_0, .int .i64 p2_1, .int .i64 p2_2, .int .i64 p2_3, .int .i64 p2_4, .int .i64 p2_5, .slice p2_6 p2_6_n p2_6_c, .slice p2_7 p2_7_n p2_7_c, .slice p2_8 p2_8_n p2_8_c]] w R :=
 okOf { locals := [5, 15, 17], sem := [103, 115, 119, 127], draws := [(5, { order := (ol [0,1,2,3,4,5,6,7,8,9,10,11,12,13,14,15] .nil), bars := [8] }), (8, { order := (ol [0,1,2,3,4,5,6,7,8,9,10,11,12,13,14,15,16,17,18] .nil), bars := [11] }), (9, { order := (ol [0,1,2,3,4,5,6,7,8,9,11,12,13,14,15] (.alt (ol [10] (.alt (ol [16,17,18,19] .nil) (ol [18,16,17,19] .nil))) (.alt (ol [16] (.alt (ol [10,17,18,19] .nil) (ol [18,10,17,19] .nil))) (ol [18] (.alt (ol [10,16,17,19] .nil) (ol [16,10,17,19] .nil)))))), bars := [19] }), (16, { order := (ol [0,1,2,3,4,5,6,7] .nil), bars := [7] })], cuts := [(3, { slots := [(8, .bool)], cells := [] }), (5, { slots := [], cells := [] }), (16, { slots := [], cells := [] })] } mix Tryz.func49 (by kernel_rfl) (by kernel_rfl) (by kernel_rfl) h
theorem Acf : (Tryz.prog.info? 4).map (fun i => (i.zero, i.size, i.bytes)) = some (some (.bool false), Enc.boolE.sz, 1) := by kernel_rfl
theorem Gq {st : Int} (h : 1 ≤ st ∧ st ≤ 4) {w : World} {k : Value → World → Prop} (hk : ∀ (a : Option Addr) (n c : Nat) (w' : World), Own w' w.heap.size 4 Enc.boolE a n c (List.replicate st.toNat false) → Grew w w' → k (.slice a n c) w') :
  SemW Tryz.prog (Instr.makeSlice 72 (.int .i64 st) (.int .i64 st)) k w := by
 have hsn : st = (st.toNat : Int) := by omega
 have mk : SemW Tryz.prog (Instr.makeSlice 72 (.int .i64 (st.toNat : Int)) (.int .i64 (st.toNat : Int))) = SemW Tryz.prog (Instr.makeSlice 72 (.int .i64 st) (.int .i64 st)) := by rw [← hsn]
 rw [← mk]
 refine Hf (e := 4) (E := Enc.boolE) (x := false) (z := .bool false) (bytes := 1) (by kernel_rfl) Acf rfl (by omega) (by simp only [maxLen]; omega) ?_
 rintro v w' ⟨a, n, c, rfl, ho, hg⟩
 exact hk _ _ _ _ ho hg
theorem Acg (p : Bd) : appB p [] = List.replicate p.stores.toNat false := by
 unfold appB
 rw [List.eq_replicate_iff]
 refine ⟨by rw [List.length_map, Cj], fun b hb => ?_⟩
 obtain ⟨k, -, rfl⟩ := List.mem_map.1 hb
 simp
def Laid (w : World) (B : Nat) (X : An) (V' : Ac) (i : Nat) (y : A7) (w' : World) : Prop :=
 ∃ (L : Sl3) (hs' : List A7), w'.cell? ⟨X.q, 9, none⟩ = some (.slice L.1 L.2.1 L.2.2) ∧ i < hs'.length ∧ Own w' B rwT.H Enc.rheld L.1 L.2.1 L.2.2 hs' ∧ ∀ w1 w2, Grew w' w1 → Own w2 B rwT.H Enc.rheld L.1 L.2.1 L.2.2 (hs'.set i y) → Upd (Blk L.1) w1 w2 → ∃ X', RWM w B X w2 X' V'
theorem Ach {w w' : World} {B i : Nat} {X : An} {V : Ac} {k : Int} {a : AttV} {x y : A7} (h : RWA w B X V) (hB : B ≤ w.heap.size) (hg : Grew w w') (hx : X.hs[i]? = some x) (hk : x.c.batch = k) (hy : Bo rwT w' w.heap.size y) (hc : y.c = Cd V.plan k a) (hok : a.Ok V.plan) : Laid w B X (V.setA k a) i y w' :=
 ⟨X.l, X.hs, Cf (h.grew hg), (List.getElem?_eq_some_iff.1 hx).1, (h.grew hg).list, fun w1 w2 hg1 ho hu => ⟨_, h.lay Lt (hg.trans hg1) hx hk ((hy.grew hg1).base hB) hc hok ⟨fun b hb => .inr (hy.app.blk hb).1, fun b hb => .inr (hy.foot hb).1⟩ ho hu⟩⟩
theorem Aci {w w7 w' : World} {B i : Nat} {X : An} {V : Ac} {k : Int} {a : AttV} {y zz : A7} {L : Sl3} (h : RWA w B X V) (hB : B ≤ w.heap.size) (hg : Grew w w7) (hoL : Own w7 w.heap.size rwT.H Enc.rheld L.1 L.2.1 L.2.2 (X.hs.take i ++ zz :: X.hs.drop i)) (hw' : w' = setCells w7 ⟨X.q, 9, none⟩ 0 [.slice L.1 L.2.1 L.2.2])
  (hp : V.Place k i) (hn : getM V.held k = none) (hkk : 1 ≤ k ∧ k ≤ 1099511627776) (hy : Bo rwT w7 w.heap.size y) (hc : y.c = Cd V.plan k a) (hok : a.Ok V.plan) : Laid w B X (V.setA k a) i y w' ∧ Upd (fun b => b = X.q) w w' := by
 obtain ⟨r1, r2, r3⟩ := (h.grew hg).row.set1 (o := 9) (by simp [An.vals]) (.slice L.1 L.2.1 L.2.2)
 rw [← hw'] at r2 r3
 obtain ⟨hkl, hll⟩ := h.len
 have hi : i ≤ X.hs.length := by rw [hkl]; exact hp.1
 have htl : (X.hs.take i).length = i := by rw [List.length_take]; omega
 have hql := h.row.lt
 have hLq : ¬ Blk L.1 X.q := fun hb => by have := (hoL.blk hb).1; omega
 have u1 : Upd (fun b => b = X.q) w w' := hg.then_upd r3
 have hoL' := hoL.upd r3 fun b hb e => hLq (e ▸ hb)
 have hy' := hy.upd r3 fun b hb e => by have := (hy.foot hb).1; omega
 refine ⟨⟨L, X.hs.take i ++ zz :: X.hs.drop i, by rw [r2.cell]; rfl, by rw [List.length_append, List.length_cons, htl]; omega, hoL'.base hB, fun w1 w2 hg1 ho2 hu2 => ?_⟩, u1⟩
 have hset : (X.hs.take i ++ zz :: X.hs.drop i).set i y = X.hs.take i ++ y :: X.hs.drop i := by
  rw [List.set_append_right _ _ (by omega), htl, Nat.sub_self, List.set_cons_zero]
 rw [hset] at ho2
 have hU : Upd (fun b => b = X.q) w w2 := (((u1.then_grew hg1).mono (S' := fun b => b = X.q ∨ Blk L.1 b) fun b _ e => .inl e).trans (hu2.mono fun b _ e => .inr e)).mono fun b hlt e => e.elim id fun hb => by have := (hoL.blk hb).1; omega
 have hmem : ∀ z, z ∈ X.hs.take i ++ y :: X.hs.drop i → z = y ∨ z ∈ X.hs := fun z hz => by
  rcases List.mem_append.1 hz with hz | hz
  ·exact .inr (List.mem_of_mem_take hz)
  ·rcases List.mem_cons.1 hz with rfl | hz
   ·exact .inl rfl
   ·exact .inr (List.mem_of_mem_drop hz)
 refine ⟨⟨X.q, X.o, L, X.hs.take i ++ y :: X.hs.drop i⟩, h.next Lt hU (fun b hb => .inl hb) rfl rfl rfl ((r2.grew hg1).upd hu2 hLq) ho2 ?_ (fun z hz => ?_) (Vu h.apart i fun x hx b h1 h2 => ?_) (Ac.setA_nd h.nd k a) (h.ok.setA hkk hok) (fun b hb => ?_)⟩
 ·rw [Ac.rows_new h.nd hp hn, ← h.rows, List.map_append, List.map_cons, List.map_take, List.map_drop, hc]
 ·rcases hmem z hz with rfl | hz
  ·exact ((hy'.grew hg1).upd hu2 fun b hb hb2 => (hy'.grew hg1).offH Lt (hoL'.grew hg1) b hb hb2).base hB
  ·exact (h.each z hz).upd hU fun b hb e => (h.each z hz).offW Lt h.row (e ▸ hb)
 ·have := (hy.app.blk h1).1; have := ((h.each x hx).app.blk h2).2; omega
 ·rcases hb with hb | ⟨z, hz, hb⟩
  ·exact .inr (hoL.blk hb).1
  ·rcases hmem z hz with rfl | hz
   ·exact .inr (hy.foot hb).1
   ·exact .inl (.inr (.inr (.inr ⟨z, hz, hb⟩)))
theorem Za {V : Ac} (hn : V.Nd) {k : Int} {i : Nat} (hp : V.Place k i) : V.keyS[i]? = some k ↔ (getM V.held k).isSome = true := by
 constructor
 ·intro h
  obtain ⟨a, ha⟩ := H9 (Ac.keyS_mem.1 (List.mem_of_getElem? h))
  rw [ha]; rfl
 ·intro h
  obtain ⟨a, ha⟩ := Option.isSome_iff_exists.1 h
  exact hp.there hn ha
theorem Rl {w : World} {B : Nat} {X : An} {V : Ac} (h : RWA w B X V) {k : Int} {i : Nat} (hp : V.Place k i) {a : AttV} (ha : getM V.held k = some a) : ∃ x, X.hs[i]? = some x ∧ x.c.batch = k ∧ x.c = Cd V.plan k a := by
 have hkey := hp.there h.nd ha
 obtain ⟨hkl, -⟩ := h.len
 have hi := (List.getElem?_eq_some_iff.1 hkey).1
 obtain ⟨x, hx⟩ : ∃ x, X.hs[i]? = some x := ⟨_, List.getElem?_eq_getElem (by omega)⟩
 obtain ⟨h1, b, hb, hxc⟩ := h.get hx
 rw [hkey] at h1
 have hk := Option.some.inj h1
 rw [← hk] at hb hxc
 rw [ha] at hb; cases hb
 exact ⟨x, hx, hk.symm, hxc⟩
set_option maxHeartbeats 4000000 in
theorem Vx {w : World} {B B2 : Nat} {X : An} {V : Ac} {m : Msg} {sx : Ch} {s : SrcV} (h : RWA w B X V) (hs : RSA w B2 sx s) (hm : m.At w) (hms : 1 ≤ m.c.batch ∧ m.c.batch ≤ 1099511627776) (hB : B ≤ w.heap.size) (hlen : V.held.length ≤ 100000) :
  Aa Tryz.prog 49 [.pointer (some ⟨X.q, 0, none⟩), .pointer (some ⟨sx.q, 0, none⟩), m.val] w (Rets (Rj w B X (V.assign s m.c))) := by
 refine sx49.ok ?_
 unfold sx49
 have hG := h.ok.good
 have hfit := hs.fits
 have hSt := hG.stores
 obtain ⟨hkl, hll⟩ := h.len
 have hcap := h.list.le
 have hkv : V.keyS.length = V.held.length := by unfold Ac.keyS; rw [(Bf _).length_eq, List.length_map]
 have nilA : ∀ {y : World}, V.assign s m.c = (V, []) → Grew w y → Rets (Rj w B X (V.assign s m.c)) (.returned (.slice none 0 0)) y := fun he hg => ⟨_, rfl, none, 0, 0, rfl, by rw [he]; exact Fa h hg⟩
 intro w1 hg1
 have h1 := h.grew hg1
 refine (Ri h1).use fun u w2 ⟨i, hv, hp, hw⟩ => ?_
 subst hv; subst hw
 have hil := hp.1
 have hth := Za h.nd hp
 refine ⟨_, rfl, fun b w' => b = (getM V.held m.c.batch).isSome ∧ Grew w w', ⟨_, _, _, Cf h1, fun hlt => ⟨_, _, _, Cf h1, ?_⟩, fun hge w12 hg12 => ⟨?_, hg1.trans hg12⟩⟩, ?_⟩
 ·simp only [decide_eq_true_eq] at hlt
  obtain ⟨d, x, hd, hx, hc⟩ := h1.list.reads.at0 (k := i) (by omega)
  have hkey := (h1.get hx).1
  rw [hd, Ab]
  refine ⟨⟨by omega, by omega⟩, _, (C9 hc).1, fun w11 hg11 => ⟨?_, hg1.trans hg11⟩⟩
  rw [hkey] at hth
  rw [Bool.eq_iff_iff, ← hth, beq_iff_eq]
  exact ⟨fun e => by rw [e], fun e => Option.some.inj e⟩
 ·simp only [decide_eq_false_iff_not] at hge
  have : ¬ (getM V.held m.c.batch).isSome = true := fun e => by
   have := (List.getElem?_eq_some_iff.1 (hth.2 e)).1
   omega
  simpa using this
 rintro b13 w14 ⟨rfl, hg14⟩
 have h14 := h.grew hg14
 refine ⟨fun w' => Grew w w' ∧ V.stale m.c = false, ⟨fun hb => ?_, fun hb w20 hg20 => ⟨hg14.trans hg20, ?_⟩⟩, ?_⟩
 ·obtain ⟨a0, ha0⟩ := Option.isSome_iff_exists.1 hb
  obtain ⟨x, hx, hxb, hxc⟩ := Rl h hp ha0
  have hi := (List.getElem?_eq_some_iff.1 hx).1
  obtain ⟨d, y, hd, hy, hyc⟩ := h14.list.reads.at0 (k := i) (by omega)
  rw [hx] at hy; cases hy
  have hst : V.stale m.c = decide (m.c.att ≤ x.c.att) := by unfold Ac.stale; rw [ha0, hxc]; rfl
  refine ⟨_, _, _, Cf h14, ?_⟩
  rw [hd, Ab]
  refine ⟨⟨by omega, by omega⟩, _, (C9 hyc).2.1, fun w19 hg19 => ⟨fun hge => nilA ?_ (hg14.trans hg19), fun hlt => ⟨hg14.trans hg19, by rw [hst]; exact hlt⟩⟩⟩
  unfold Ac.assign; rw [if_pos (by rw [hst]; exact hge)]
 ·have : getM V.held m.c.batch = none := by simpa using hb
  unfold Ac.stale; rw [this]
 rintro w21 ⟨hg21, hst⟩ w22 hg22
 have hg22 := hg21.trans hg22
 have h22 := h.grew hg22
 have c5 : w22.cell? ⟨X.q, 5, none⟩ = some (.int .i64 V.plan.batch) := by rw [h22.row.cell]; rfl
 refine ⟨_, c5, (Ab5 (hs.grew hg22) (hm.grew hg22).e).use fun u w24 ⟨a26, l26, c26, a27, l27, c27, hv, ho26, ho27, hg24⟩ => ?_⟩
 subst hv
 have hg24' := hg22.trans hg24
 obtain ⟨F, hF⟩ : ∃ F, F = Bp s m.c.ends V.plan.batch := ⟨_, rfl⟩
 rw [← hF] at ho26 ho27 ⊢
 refine ⟨_, _, _, _, _, _, _, rfl, fun hne => nilA ?_ hg24', fun heq w30 hg30 => ?_⟩
 ·unfold Ac.assign; rw [if_neg (by rw [hst]; simp), if_pos (by rw [← hF]; simpa using hne)]
 have he0 : F.err = 0 := by simpa using heq
 have hg30' := hg24'.trans hg30
 have h30 := h.grew hg30'
 obtain ⟨hnok, hTl, hTf⟩ := Sd h.ok hfit (m := m.c) (by rw [← hF]; exact he0)
 obtain ⟨q1, q2, q3, q4⟩ := Pv hfit (by rw [← hF]; exact he0)
 rw [← hF] at q3 hTl hTf
 have hrf : ∀ r ∈ F.recs, r.Fits := by rw [q3]; exact Mi hfit _ _ _
 have hrl : F.recs.length ≤ 64 := by rw [q3]; have := Nu (v := s) q1 q2 m.c.ends.length; simp only; omega
 have hFt : F.to.length ≤ 4 := by rw [q3]; show (toV s V.plan.batch m.c.ends).length ≤ 4; rw [D9]; exact q4
 have c3 : w30.cell? ⟨X.q, 3, none⟩ = some (.slice X.o.1 X.o.2.1 X.o.2.2) := by rw [h30.row.cell]; rfl
 have c4 : w30.cell? ⟨X.q, 4, none⟩ = some (.int .i64 V.plan.agg) := by rw [h30.row.cell]; rfl
 refine ⟨_, _, _, c3, _, c4, (Y8 h30.ops.reads h.ok.ops (ho27.grew hg30).reads hrf (by omega)).use fun u w33 ⟨a35, l35, c35, hv, ho35, hg33, hl35⟩ => ?_⟩
 rw [if_pos ⟨hG.ops, hG.agg⟩] at ho35
 subst hv
 obtain ⟨T, hT⟩ : ∃ T, T = Bv (bAll V.plan.ops V.plan.agg F.recs).1 := ⟨_, rfl⟩
 rw [H7, ← hT] at ho35
 rw [← hT] at hTl hTf
 have hnewR : (⟨m.c.batch, m.c.att, F.to, Gx V.plan.stores T, false, List.replicate V.plan.stores.toNat false⟩ : G7) = Cd V.plan m.c.batch (V.newA s m.c) := by
  unfold Cd Ac.newA
  rw [← hF, ← hT, Acg]
 have hasg : V.assign s m.c = (V.setA m.c.batch (V.newA s m.c), [{ V.say m.c 2 0 with ends := F.to }]) := by
  unfold Ac.assign; rw [if_neg (by rw [hst]; simp), if_neg (by rw [← hF, he0]; simp), ← hF]
 refine ⟨_, _, _, _, _, rfl, fun w39 hg39 => ?_⟩
 have hg39' := hg30'.trans (hg33.trans hg39)
 have h39 := h.grew hg39'
 obtain ⟨hpA, hpC⟩ := Acb h39
 have hE39 := ((ho26.grew hg30).grew hg33).grew hg39
 have hT39 := (ho35.grew hg39).reads
 have sameW : ∀ {x y : World}, RWA x B X V → Grew x y → Ad x y [⟨X.q, 1, none⟩, ⟨X.q, 0, none⟩] := fun hx hg => ⟨hg.block _ hx.row.lt, hg.block _ hx.row.lt, trivial⟩
 have TL : ∀ (wz : World) (a51 : Option Addr) (l51 c51 : Nat) (a55 : Option Addr) (l55 c55 : Nat) (hsd : List Sl3), Grew w wz → Bo rwT wz w.heap.size ⟨⟨m.c.batch, m.c.att, F.to, Gx V.plan.stores T, false, List.replicate V.plan.stores.toNat false⟩, (a26, l26, c26), (a51, l51, c51), hsd, (a55, l55, c55)⟩ →
   sx49_a (getM V.held m.c.batch).isSome wz X.q i m.c.batch m.c.att a26 l26 c26 a51 l51 c51 a55 l55 c55 m.c.kind m.c.frm m.c.to m.c.code m.e.1 m.e.2.1 m.e.2.2 m.k.1 m.k.2.1 m.k.2.2 m.p.1 m.p.2.1 m.p.2.2 (Rets (Rj w B X (V.assign s m.c))) := by
  intro wz a51 l51 c51 a55 l55 c55 hsd hgz hyA
  unfold sx49_a
  let y : A7 := ⟨⟨m.c.batch, m.c.att, F.to, Gx V.plan.stores T, false, List.replicate V.plan.stores.toNat false⟩, (a26, l26, c26), (a51, l51, c51), hsd, (a55, l55, c55)⟩
  have hoE := hyA.ends
  have hyc : y.c = Cd V.plan m.c.batch (V.newA s m.c) := hnewR
  have hzwz := h.grew hgz
  refine ⟨fun w' => Laid w B X (V.setA m.c.batch (V.newA s m.c)) i y w' ∧ Own w' w.heap.size 3 (Enc.int .i64) a26 l26 c26 F.to, ⟨fun hnb b58 w59 hal59 => ?_, fun hb => ?_⟩, ?_⟩
  ·have hnone : getM V.held m.c.batch = none := by
    cases hg : getM V.held m.c.batch with
    | none => rfl
    | some a => rw [hg] at hnb; simp at hnb
   have hg59 := hgz.trans hal59.grew
   have ho59 : Own w59 wz.heap.size 144 Enc.rheld (some ⟨b58, 0, none⟩) 0 0 [] := Own.alloc (l := []) hal59 (Nat.le_refl _) rfl (by simp [maxLen])
   have h59 := h.grew hg59
   refine ⟨_, _, _, Cf h59, ⟨by omega, by omega⟩, ?_⟩
   rw [Int.toNat_natCast]
   have ht := (h59.list.take (k := i) (by omega)).reads
   refine B5 elRH ho59 ht.1 ht.2.1 ht.2.2.1 hal59.grew.size (by simp only [maxLen, List.length_nil, List.length_take]; omega) (by simp only [List.length_nil, List.length_take]; omega) ?_
   rintro u w61 ⟨a63, l63, c63, rfl, ho61, hu61, hb61⟩
   rw [List.nil_append] at ho61
   have g61 : Grew wz w61 := hal59.grew.then_own hu61 fun b hb => (ho59.blk hb).1
   refine ⟨_, _, _, rfl, fun b64 w65 hal65 => ?_⟩
   refine Bc (l2 := [(⟨⟨0, 0, [], [], false, []⟩, (none, 0, 0), (none, 0, 0), [], (none, 0, 0)⟩ : A7)]) elRH ho61 hal65 rfl rfl g61.size (by simp only [maxLen, List.length_take, List.length_singleton]; omega) (by simp only [List.length_take, List.length_singleton]; omega) ?_
   rintro u w66 ⟨a68, l68, c68, rfl, ho66, hu66, hb66⟩
   have g66 := g61.then_own hu66 fun b hb => (ho61.blk hb).1
   have hg66 := hgz.trans g66
   have h66 := h.grew hg66
   refine ⟨_, _, _, rfl, _, _, _, Cf h66, ⟨by omega, by omega⟩, ?_⟩
   have hc := h66.list.reads.cut (i := i) (j := X.hs.length) (by omega) (by omega)
   rw [List.take_length] at hc
   rw [hll]
   refine B5 elRH ho66 hc.1 hc.2.1 hc.2.2.1 g66.size (by simp only [maxLen, List.length_append, List.length_singleton, List.length_drop, List.length_take]; omega) (by simp only [List.length_append, List.length_singleton, List.length_drop, List.length_take]; omega) ?_
   rintro u w70 ⟨a72, l72, c72, rfl, ho70, hu70, hb70⟩
   rw [List.append_assoc, List.singleton_append] at ho70
   have gz := g66.then_own hu70 fun b hb => (ho66.blk hb).1
   have hg70 := hgz.trans gz
   have h70 := h.grew hg70
   obtain ⟨r1, -, -⟩ := h70.row.set1 (o := 9) (by simp [An.vals]) (.slice a72 l72 c72)
   refine ⟨_, _, _, rfl, r1, fun w73 h73 => ?_⟩
   have hyA70 := hyA.grew gz
   obtain ⟨hL, hu73⟩ := Aci (L := (a72, l72, c72)) h hB hg70 (ho70.base hgz.size) h73 hp hnone hms hyA70 hyc hnok
   obtain ⟨-, -, r3⟩ := h70.row.set1 (o := 9) (by simp [An.vals]) (.slice a72 l72 c72)
   rw [← h73] at r3
   exact ⟨hL, hyA70.ends.upd r3 fun b hb e => by have := (hyA70.ends.blk hb).1; have := h.row.lt; omega⟩
  ·obtain ⟨a0, ha0⟩ := Option.isSome_iff_exists.1 (show (getM V.held m.c.batch).isSome = true by simpa using hb)
   obtain ⟨x, hx, hxb, hxc⟩ := Rl h hp ha0
   exact ⟨Ach h hB hgz hx hxb hyA hyc hnok, hoE⟩
  ·rintro w74 ⟨⟨L, hs', hcL, hil', hoL, hfin⟩, hoE'⟩ w75 hg75
   obtain ⟨dL, hdL, hroom, hset, huL⟩ := (hoL.grew hg75).set (i := i) hil' y
   obtain ⟨X', hM⟩ := hfin _ _ hg75 hset huL
   have hlL := hoL.len
   refine ⟨_, _, _, hg75.cell hcL, ?_⟩
   rw [hdL, Ab, Int.toNat_natCast]
   refine ⟨⟨by omega, by omega⟩, hroom, fun w78 h78 => ?_⟩
   replace hM : RWM w B X w78 X' (V.setA m.c.batch (V.newA s m.c)) := by rw [h78]; exact hM
   replace huL : Upd (Blk L.1) w75 w78 := by rw [h78]; exact huL
   have hE78 := (hoE'.grew hg75).upd huL fun b hb hb2 => own_ne (hoL.grew hg75) (hoE'.grew hg75) Lt.HI b hb2 hb
   rw [← hM.q]
   refine (Lu (m := m) (kind := 2) (to := 0) hM.at_).use fun u w79 ⟨hv, hg79⟩ => ?_
   subst hv
   refine ⟨_, _, _, _, _, _, _, _, _, _, _, _, _, _, _, rfl, fun w91 hg91 => (Mo ((hE78.grew hg79).grew hg91).reads (by omega)).use fun u w92 ⟨a94, l94, c94, hv, ho94, hg92⟩ => ?_⟩
   subst hv
   refine ⟨_, _, _, rfl, fun b96 w97 hal97 => ⟨_, rfl, _, _, _, rfl, ?_⟩⟩
   have hgk := hg79.trans hg91
   let z : Msg := ⟨{ V.say m.c 2 0 with ends := F.to }, (a94, l94, c94), (none, 0, 0), (none, 0, 0)⟩
   have hz : MO w92 w78.heap.size z := ⟨ho94.base hgk.size, Own.nil _ _ _ _, Own.nil _ _ _ _⟩
   rw [hasg]
   exact Gp hM ((hgk.trans hg92).trans hal97.grew) (J3 (hgk.trans hg92) hz hal97) rfl
 refine ⟨_, _, _, _, _, _, _, _, _, _, hpC, _, P4 h39, ?_, ?_, ?_⟩
 ·refine (Jk (x := plR X V) hpA hG hT39 hTf (by omega)).use fun u w49 ⟨a51, l51, c51, hsd, hv, hoD, hDs, hg49⟩ => ?_
  subst hv
  have h49 := h39.grew hg49
  refine ⟨_, _, _, rfl, sameW h39 hg49, Gq hSt fun a55 l55 c55 w53 hoP hg53 => ⟨_, _, _, rfl, sameW h49 hg53, fun w56 hg56 => ⟨sameW (h49.grew hg53) hg56, ?_⟩⟩, fun w98 hg98 => ⟨sameW h49 hg98, Gq hSt fun a55 l55 c55 w53 hoP hg53 => ⟨_, _, _, rfl, sameW (h49.grew hg98) hg53, ?_⟩⟩⟩
  ·have hgz := hg39'.trans (hg49.trans (hg53.trans hg56))
   have hoE := (((hE39.grew hg49).grew hg53).grew hg56).base hg22.size
   replace hoD := ((hoD.grew hg53).grew hg56).base hg39'.size
   replace hDs := ((hDs.grew hg53).grew hg56).base hg39'.size
   replace hoP := (hoP.grew hg56).base (hg39'.trans hg49).size
   exact TL _ _ _ _ _ _ _ _ hgz ⟨hoE, hoD, hDs, hoP⟩
  ·have hgz := hg39'.trans (hg49.trans (hg98.trans hg53))
   have hoE := (((hE39.grew hg49).grew hg98).grew hg53).base hg22.size
   replace hoD := ((hoD.grew hg98).grew hg53).base hg39'.size
   replace hDs := ((hDs.grew hg98).grew hg53).base hg39'.size
   replace hoP := hoP.base (hg39'.trans (hg49.trans hg98)).size
   exact TL _ _ _ _ _ _ _ _ hgz ⟨hoE, hoD, hDs, hoP⟩
 ·refine Gq hSt fun a55 l55 c55 w53 hoP hg53 => ⟨_, _, _, rfl, sameW h39 hg53, ?_, fun w98 hg98 => ⟨sameW (h39.grew hg53) hg98, ?_⟩⟩
  ·refine (Jk (x := plR X V) (Plan.At.grew hpA hg53) hG (hT39.grew hg53) hTf (by omega)).use fun u w49 ⟨a51, l51, c51, hsd, hv, hoD, hDs, hg49⟩ => ?_
   subst hv
   refine ⟨_, _, _, rfl, sameW (h39.grew hg53) hg49, fun w56 hg56 => ⟨sameW ((h39.grew hg53).grew hg49) hg56, ?_⟩⟩
   have hgz := hg39'.trans (hg53.trans (hg49.trans hg56))
   have hoE := (((hE39.grew hg53).grew hg49).grew hg56).base hg22.size
   replace hoD := (hoD.grew hg56).base (hg39'.trans hg53).size
   replace hDs := (hDs.grew hg56).base (hg39'.trans hg53).size
   replace hoP := ((hoP.grew hg49).grew hg56).base hg39'.size
   exact TL _ _ _ _ _ _ _ _ hgz ⟨hoE, hoD, hDs, hoP⟩
  ·refine (Jk (x := plR X V) (Plan.At.grew hpA (hg53.trans hg98)) hG (hT39.grew (hg53.trans hg98)) hTf (by omega)).use fun u w49 ⟨a51, l51, c51, hsd, hv, hoD, hDs, hg49⟩ => ?_
   subst hv
   refine ⟨_, _, _, rfl, sameW (h39.grew (hg53.trans hg98)) hg49, ?_⟩
   have hgz := hg39'.trans (hg53.trans (hg98.trans hg49))
   have hoE := (((hE39.grew hg53).grew hg98).grew hg49).base hg22.size
   replace hoD := hoD.base (hg39'.trans (hg53.trans hg98)).size
   replace hDs := hDs.base (hg39'.trans (hg53.trans hg98)).size
   replace hoP := ((hoP.grew hg98).grew hg49).base hg39'.size
   exact TL _ _ _ _ _ _ _ _ hgz ⟨hoE, hoD, hDs, hoP⟩
 ·intro w98 hg98
  have h98 := h39.grew hg98
  refine ⟨sameW h39 hg98, ?_, ?_⟩
  ·refine (Jk (x := plR X V) (Plan.At.grew hpA hg98) hG (hT39.grew hg98) hTf (by omega)).use fun u w49 ⟨a51, l51, c51, hsd, hv, hoD, hDs, hg49⟩ => ?_
   subst hv
   refine ⟨_, _, _, rfl, sameW h98 hg49, Gq hSt fun a55 l55 c55 w53 hoP hg53 => ⟨_, _, _, rfl, sameW (h98.grew hg49) hg53, ?_⟩⟩
   have hgz := hg39'.trans (hg98.trans (hg49.trans hg53))
   have hoE := (((hE39.grew hg98).grew hg49).grew hg53).base hg22.size
   replace hoD := (hoD.grew hg53).base (hg39'.trans hg98).size
   replace hDs := (hDs.grew hg53).base (hg39'.trans hg98).size
   replace hoP := hoP.base (hg39'.trans (hg98.trans hg49)).size
   exact TL _ _ _ _ _ _ _ _ hgz ⟨hoE, hoD, hDs, hoP⟩
  ·refine Gq hSt fun a55 l55 c55 w53 hoP hg53 => ⟨_, _, _, rfl, sameW h98 hg53, ?_⟩
   refine (Jk (x := plR X V) (Plan.At.grew hpA (hg98.trans hg53)) hG (hT39.grew (hg98.trans hg53)) hTf (by omega)).use fun u w49 ⟨a51, l51, c51, hsd, hv, hoD, hDs, hg49⟩ => ?_
   subst hv
   refine ⟨_, _, _, rfl, sameW (h98.grew hg53) hg49, ?_⟩
   have hgz := hg39'.trans (hg98.trans (hg53.trans hg49))
   have hoE := (((hE39.grew hg98).grew hg53).grew hg49).base hg22.size
   replace hoD := hoD.base (hg39'.trans (hg98.trans hg53)).size
   replace hDs := hDs.base (hg39'.trans (hg98.trans hg53)).size
   replace hoP := (hoP.grew hg49).base (hg39'.trans hg98).size
   exact TL _ _ _ _ _ _ _ _ hgz ⟨hoE, hoD, hDs, hoP⟩
end Go.Proofs.YtcpkneemhfnanaaGreat
