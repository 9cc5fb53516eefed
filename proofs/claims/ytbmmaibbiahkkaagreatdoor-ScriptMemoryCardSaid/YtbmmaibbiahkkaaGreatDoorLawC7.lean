/- ScriptMemory: what it computes. Conditions: none. -/
import Derived.Test.YtbmmaibbiahkkaaGreatDoorProg
import Derived.Test.YtbmmaibbiahkkaaGreatDoorScrN
import Derived.Test.YtbmmaibbiahkkaaGreatDoorScrGl
import Derived.Test.YtbmmaibbiahkkaaGreatDoorKindsP
import Derived.Test.YtbmmaibbiahkkaaGreatDoorRows
import Derived.Test.YtbmmaibbiahkkaaGreatDoorTie
import Derived.Test.YtbmmaibbiahkkaaGreatDoorCards
import Derived.SevenTiedAt
import Derived.Stop.Joined
namespace Go.Proofs.YtbmmaibbiahkkaaGreatDoor
open Go.Sx
set_option maxRecDepth 100000
set_option linter.unusedVariables false
set_option linter.unusedSimpArgs false
def sx9 (d_0 d_1 d_2 : Int) (d_3 : Option Addr) (d_3_n d_3_c : Nat) (d_4 d_5 d_6 d_7 : Int) (i : Option Addr) (i_n i_c : Nat) (R : Ending → World → Prop) (w : World) : Prop :=
  ∀ w1, Grew w w1 → Aa Tryz.prog 10 [] w1 (RetR R fun u3 w2 => ∃ b4, u3 = .bool b4 ∧ ifB (!b4) (R (.returned (.bool false)) w2) (∀ w6, Grew w2 w6 → ∀ n7 : Int, n7 = IntKind.i64.wrap (((d_3_n : Nat) : Int) + 2) → SemW Tryz.prog (Instr.makeSlice 23 (.int .i64 0) (.int .i64 n7)) (fun u9 w8 => ∃ a10 l10 c10, u9 = .slice a10 l10 c10 ∧ SemW Tryz.prog (Builtin.append_ #[23, 23] 23 #[.slice a10 l10 c10, .slice d_3 d_3_n d_3_c]) (fun u12 w11 => ∃ a13 l13 c13, u12 = .slice a13 l13 c13 ∧ ∀ b14 w15, Ar w11 w15 b14 (.cells #[.int .i64 71, .int .i64 0, .float .f64 0, .int .i64 72, .int .i64 0, .float .f64 0] 49) → SemW Tryz.prog (Builtin.append_ #[23, 23] 23 #[.slice a13 l13 c13, .slice (some ⟨b14, 0, none⟩) 2 2]) (fun u17 w16 => ∃ a18 l18 c18, u17 = .slice a18 l18 c18 ∧ (0 ≤ ((d_3_n : Nat) : Int) ∧ ((d_3_n : Nat) : Int) ≤ (c18 : Nat)) ∧ ∀ n19 : Int, n19 = IntKind.i64.wrap (((i_n : Nat) : Int) + 2) → SemW Tryz.prog (Instr.makeSlice 26 (.int .i64 0) (.int .i64 n19)) (fun u21 w20 => ∃ a22 l22 c22, u21 = .slice a22 l22 c22 ∧ SemW Tryz.prog (Builtin.append_ #[26, 26] 26 #[.slice a22 l22 c22, .slice i i_n i_c]) (fun u24 w23 => ∃ a25 l25 c25, u24 = .slice a25 l25 c25 ∧ ∀ b26 w27, Ar w23 w27 b26 (.cells #[.int .i64 73, .int .i64 0, .int .i64 0, .int .u64 0, .float .f64 0, .int .i64 74, .int .i64 0, .int .i64 0, .int .u64 0, .float .f64 0] 46) → SemW Tryz.prog (Builtin.append_ #[26, 26] 26 #[.slice a25 l25 c25, .slice (some ⟨b26, 0, none⟩) 2 2]) (fun u29 w28 => ∃ a30 l30 c30, u29 = .slice a30 l30 c30 ∧ ∀ w31, Grew w28 w31 → (0 ≤ ((i_n : Nat) : Int) ∧ ((i_n : Nat) : Int) ≤ (c30 : Nat)) ∧ Aa Tryz.prog 15 [.agg #[.int .i64 d_0, .int .i64 d_1, .int .i64 d_2, .slice a18 (((d_3_n : Nat) : Int).toNat) c18, .int .i64 d_4, .int .i64 d_5, .int .i64 d_6, .int .i64 d_7], .slice a30 (((i_n : Nat) : Int).toNat) c30] w31 (RetR R fun u33 w32 => ∃ s34 n35, u33 = .tuple #[.string s34, .int .i64 n35] ∧ Aa Tryz.prog 15 [.agg #[.int .i64 d_0, .int .i64 d_1, .int .i64 d_2, .slice d_3 d_3_n d_3_c, .int .i64 d_4, .int .i64 d_5, .int .i64 d_6, .int .i64 d_7], .slice i i_n i_c] w32 (RetR R fun u38 w37 => ∃ s39 n40, u38 = .tuple #[.string s39, .int .i64 n40] ∧ ∃ b42, Am Tryz.prog (eqS .neq 9 (.tmp 71) (.tmp 72) (.string s34) (.string s39)) (.bool b42) ∧ ifB b42 (R (.returned (.bool false)) w37) (ifB (n35 != n40) (R (.returned (.bool false)) w37) (Aa Tryz.prog 13 [.agg #[.int .i64 d_0, .int .i64 d_1, .int .i64 d_2, .slice d_3 d_3_n d_3_c, .int .i64 d_4, .int .i64 d_5, .int .i64 d_6, .int .i64 d_7], .agg #[.int .i64 d_0, .int .i64 d_1, .int .i64 d_2, .slice a18 (((d_3_n : Nat) : Int).toNat) c18, .int .i64 d_4, .int .i64 d_5, .int .i64 d_6, .int .i64 d_7]] w37 (RetR R fun u44 w43 => ∃ b45, u44 = .bool b45 ∧ ifB (!b45) (R (.returned (.bool false)) w43) ((0 ≤ ((i_n : Nat) : Int) ∧ ((i_n : Nat) : Int) ≤ (c30 : Nat)) ∧ Aa Tryz.prog 14 [.slice a30 (((i_n : Nat) : Int).toNat) c30, .slice i i_n i_c] w43 (RetR R fun u48 w47 => ∃ b49, u48 = .bool b49 ∧ ifB (!b49) (R (.returned (.bool false))
 w47) (Ac a18 (fun d51 => (0 ≤ ((d_3_n : Nat) : Int) ∧ ((d_3_n : Nat) : Int) < (l18 : Nat)) ∧ ∃ n52, w47.cell? (Addr.add d51 (((d_3_n : Nat) : Int).toNat * 3)) = some (.int .i64 n52) ∧ ifB (n52 != 71) (R (.returned (.bool false)) w47) (∀ n53 : Int, n53 = IntKind.i64.wrap (((d_3_n : Nat) : Int) + 1) → Ac a18 (fun d54 => (0 ≤ n53 ∧ n53 < (l18 : Nat)) ∧ ∃ n55, w47.cell? (Addr.add d54 (n53.toNat * 3)) = some (.int .i64 n55) ∧ ifB (n55 != 72) (R (.returned (.bool false)) w47) (Ac a30 (fun d56 => (0 ≤ ((i_n : Nat) : Int) ∧ ((i_n : Nat) : Int) < (l30 : Nat)) ∧ ∃ n57, w47.cell? (Addr.add d56 (((i_n : Nat) : Int).toNat * 5)) = some (.int .i64 n57) ∧ ifB (n57 != 73) (R (.returned (.bool false)) w47) (∀ n58 : Int, n58 = IntKind.i64.wrap (((i_n : Nat) : Int) + 1) → Ac a30 (fun d59 => (0 ≤ n58 ∧ n58 < (l30 : Nat)) ∧ ∃ n60, w47.cell? (Addr.add d59 (n58.toNat * 5)) = some (.int .i64 n60) ∧ ifB (n60 != 74) (R (.returned (.bool false)) w47) (ifB (n35 != 0) (R (.returned (.bool true)) w47) (Aa Tryz.prog 11 [.string s34] w47 (RetR R fun u62 w61 => ∃ n63 n64 n65 a66 l66 c66 n67 n68 n69 n70 a71 l71 c71 n72 n73, u62 = .tuple #[.agg #[.int .i64 n63, .int .i64 n64, .int .i64 n65, .slice a66 l66 c66, .int .i64 n67, .int .i64 n68, .int .i64 n69, .int .i64 n70], .slice a71 l71 c71, .int .i64 n72, .int .i64 n73] ∧ ∀ w75, Grew w61 w75 → Aa Tryz.prog 11 [.string s34] w75 (RetR R fun u77 w76 => ∃ n78 n79 n80 a81 l81 c81 n82 n83 n84 n85 a86 l86 c86 n87 n88, u77 = .tuple #[.agg #[.int .i64 n78, .int .i64 n79, .int .i64 n80, .slice a81 l81 c81, .int .i64 n82, .int .i64 n83, .int .i64 n84, .int .i64 n85], .slice a86 l86 c86, .int .i64 n87, .int .i64 n88] ∧ ∀ w90, Grew w76 w90 → ∃ (I91 : Int → World → Prop) (m91 : Int → World → Nat), I91 0 w90 ∧ ∀ n92 w93, I91 n92 w93 → ifB (decide (n92 < ((l66 : Nat) : Int))) (Ac a66 (fun d94 => (0 ≤ n92 ∧ n92 < (l66 : Nat)) ∧ An w93 (Addr.add d94 (n92.toNat * 3)) 0 [.int .i64 9, .int .i64 0, .float .f64 0] ∧ ∀ w95, w95 = setCells w93 (Addr.add d94 (n92.toNat * 3)) 0 [.int .i64 9, .int .i64 0, .float .f64 0] → (I91 (IntKind.i64.wrap (n92 + 1)) w95 ∧ m91 (IntKind.i64.wrap (n92 + 1)) w95 < m91 n92 w93))) (∃ (I96 : Int → World → Prop) (m96 : Int → World → Nat), I96 0 w93 ∧ ∀ n97 w98, I96 n97 w98 → ifB (decide (n97 < ((l71 : Nat) : Int))) (Ac a71 (fun d99 => (0 ≤ n97 ∧ n97 < (l71 : Nat)) ∧ An w98 (Addr.add d99 (n97.toNat * 5)) 0 [.int .i64 9, .int .i64 0, .int .i64 0, .int .u64 0, .float .f64 0] ∧ ∀ w100, w100 = setCells w98 (Addr.add d99 (n97.toNat * 5)) 0 [.int .i64 9, .int .i64 0, .int .i64 0, .int .u64 0, .float .f64 0] → (I96 (IntKind.i64.wrap (n97 + 1)) w100 ∧ m96 (IntKind.i64.wrap (n97 + 1)) w100 < m96 n97 w98))) (∃ (I101 : Option Addr → Nat → Nat → Int → Int → Int → Int → Option Addr → Nat → Nat → Int → Int → Int → Int → World → Prop) (m101 : Option Addr → Nat → Nat → Int → Int → Int → Int → Option Addr → Nat → Nat → Int → Int → Int → Int → World → Nat), I101 a71 l71 c71 0 n63 n64 n65 a66 l66
 c66 n67 n68 n69 n70 w98 ∧ ∀ a102 l102 c102 n103 n104 n105 n106 a107 l107 c107 n108 n109 n110 n111 w112, I101 a102 l102 c102 n103 n104 n105 n106 a107 l107 c107 n108 n109 n110 n111 w112 → ifB (decide (n103 < 9)) (∀ b113 w114, Ar w112 w114 b113 (.cells #[.int .i64 8, .int .i64 0, .float .f64 0] 49) → SemW Tryz.prog (Builtin.append_ #[23, 23] 23 #[.slice a107 l107 c107, .slice (some ⟨b113, 0, none⟩) 1 1]) (fun u116 w115 => ∃ a117 l117 c117, u116 = .slice a117 l117 c117 ∧ ∀ b118 w119, Ar w115 w119 b118 (.cells #[.int .i64 8, .int .i64 0, .int .i64 0, .int .u64 0, .float .f64 0] 46) → SemW Tryz.prog (Builtin.append_ #[26, 26] 26 #[.slice a102 l102 c102, .slice (some ⟨b118, 0, none⟩) 1 1]) (fun u121 w120 => ∃ a122 l122 c122, u121 = .slice a122 l122 c122 ∧ ∀ n123 : Int, n123 = IntKind.i64.wrap (n103 + 1) → (I101 a122 l122 c122 n123 n104 n105 n106 a117 l117 c117 n108 n109 n110 n111 w120 ∧ m101 a122 l122 c122 n123 n104 n105 n106 a117 l117 c117 n108 n109 n110 n111 w120 < m101 a102 l102 c102 n103 n104 n105 n106 a107 l107 c107 n108 n109 n110 n111 w112)) w119) w114) (ifB (n73 == 0) (ifB (n88 == 0) (Aa Tryz.prog 13 [.agg #[.int .i64 n78, .int .i64 n79, .int .i64 n80, .slice a81 l81 c81, .int .i64 n82, .int .i64 n83, .int .i64 n84, .int .i64 n85], .agg #[.int .i64 d_0, .int .i64 d_1, .int .i64 d_2, .slice d_3 d_3_n d_3_c, .int .i64 d_4, .int .i64 d_5, .int .i64 d_6, .int .i64 d_7]] w112 (RetR R fun u125 w124 => ∃ b126, u125 = .bool b126 ∧ ifB b126 (Aa Tryz.prog 14 [.slice a86 l86 c86, .slice i i_n i_c] w124 (RetR R fun u129 w128 => ∃ b130, u129 = .bool b130 ∧ ifB b130 (∀ n132 : Int, n132 = IntKind.i64.wrap (((l86 : Nat) : Int) + 9) → R (.returned (.bool (((l102 : Nat) : Int) == n132))) w128) (R (.returned (.bool false)) w128))) (R (.returned (.bool false)) w124))) (R (.returned (.bool false)) w112)) (R (.returned (.bool false)) w112)))))))))))))))))))))))) w27) w20) w16) w15) w8) w6))
theorem sx9.ok {d_0 d_1 d_2 : Int} {d_3 : Option Addr} {d_3_n d_3_c : Nat} {d_4 d_5 d_6 d_7 : Int} {i : Option Addr} {i_n i_c : Nat} {R : Ending → World → Prop} {w : World} (h : sx9 d_0 d_1 d_2 d_3 d_3_n d_3_c d_4 d_5 d_6 d_7 i i_n i_c R w) : Aa Tryz.prog 9 [.agg #[.int .i64 d_0, .int .i64 d_1, .int .i64 d_2, .slice d_3 d_3_n d_3_c, .int .i64 d_4, .int .i64 d_5, .int .i64 d_6, .int .i64 d_7], .slice i i_n i_c] w R :=
 okOf { locals := [2, 5, 13, 16], pureTo := [73], sem := [30, 34, 39, 47, 50, 55, 176, 181], named := [29, 46, 105, 124, 171, 203], draws := [(12, { order := (ol [0,1,2,3,4,5,6,7,8,9,10] .nil), bars := [5] })], loops := [(21, { slots := [(19, .int .i64)], cells := [] }), (25, { slots := [(20, .int .i64)], cells := [] }), (29, { slots := [(14, .slice), (21, .int .i64)], cells := [(13, 25, [.int .i64, .int .i64, .int .i64, .slice, .int .i64, .int .i64, .int .i64, .int .i64])] })] } mix Tryz.func9 (by kernel_rfl) (by kernel_rfl) (by kernel_rfl) h
structure MemI (w : World) (B1 B2 : Nat) (p : ScrP) (steps : List Af) (o2 s2 : Sl3) (j : Nat) (o s : Sl3) (w' : World) : Prop where
 ops : ∃ l : List OpV, l.length = p.ops.length + j ∧ Own w' B1 49 Enc.op3 o.1 o.2.1 o.2.2 l
 stp : ∃ l : List Af, l.length = steps.length + j ∧ Own w' B1 46 Enc.stepE s.1 s.2.1 s.2.2 l
 ops2 : Own w' B2 49 Enc.op3 o2.1 o2.2.1 o2.2.2 p.ops
 stp2 : Own w' B2 46 Enc.stepE s2.1 s2.2.1 s2.2.2 steps
 offO : ∀ b, Blk o.1 b → ¬ Blk o2.1 b
 offS : ∀ b, Blk s.1 b → ¬ Blk s2.1 b
 grew : Grew w w'
 sz : B1 ≤ w'.heap.size
theorem Hg {p : ScrP} {steps : List Af} {o : Sl3} {a : Option Addr} {n c : Nat} {w : World} (hG : Glob w) (hP : Me w p o) (hr : Reads w Enc.stepE (a, n, c) steps) (hs : ∀ s ∈ steps, s.Fits) (hnl : steps.length ≤ maxLen) (hb : steps.length * 40 ≤ 140737488351232) :
  Aa Tryz.prog 9 [Iv p o, .slice a n c] w (Rets fun v w' => v = .bool true ∧ Grew w w') := by
 obtain ⟨hp, ho, hpl, hpb⟩ := hP
 refine sx9.ok ?_
 unfold sx9
 have hn : n = steps.length := hr.2.1
 subst hn
 obtain ⟨oa, on, oc⟩ := o
 have hon : on = p.ops.length := ho.2.1
 subst hon
 have hmx : maxLen = 9223372036854775807 := rfl
 intro w1 hg1
 refine (O8 (hG.grew hg1)).use fun v w2 ⟨hv, hg2⟩ => ?_
 subst hv
 refine ⟨_, rfl, fun h => (by cases h), fun _ w6 hg6 => ?_⟩
 have hg06 := (hg1.trans hg2).trans hg6
 rintro n7 rfl
 have e7 : IntKind.i64.wrap (((p.ops.length : Nat) : Int) + 2) = ((p.ops.length + 2 : Nat) : Int) := by rw [IntKind.wrap_i64]; omega
 have e19 : IntKind.i64.wrap (((steps.length : Nat) : Int) + 2) = ((steps.length + 2 : Nat) : Int) := by rw [IntKind.wrap_i64]; omega
 rw [e7]
 refine I9 (e := 49) (bytes := 24) (E := Enc.op3) (by kernel_rfl) (z := .agg #[.int .i64 0, .int .i64 0, .float .f64 0]) (by kernel_rfl) (by omega) (by omega) fun b8 w8 hw8 hg8 => ⟨_, _, _, rfl, ?_⟩
 have hg08 := hg06.trans hg8
 refine I8 (l2 := p.ops) Mt (hw8.base hg06.size) (ho.grew hg08).1 rfl ho.2.2.1 hg08.size (by simp; omega) (by simp; omega) ?_
 rintro v w11 ⟨a13, n13, c13, rfl, ho13, hu13, hb13⟩
 have hg011 : Grew w w11 := hg08.then_own hu13 fun b hb => Nat.le_trans hg06.size (hw8.blk hb).1
 refine ⟨_, _, _, rfl, fun b14 w15 hal14 => ?_⟩
 refine Bz (l2 := [⟨71, 0, 0⟩, ⟨72, 0, 0⟩]) Mt ho13 hal14 rfl rfl hg011.size (by simp; omega) (by simp; omega) ?_
 rintro v w16 ⟨a18, n18, c18, rfl, ho18, hu18, hb18⟩
 have hg016 : Grew w w16 := hg011.then_own hu18 fun b hb => (ho13.blk hb).1
 have hn18 : n18 = p.ops.length + 2 := by rw [ho18.len]; simp
 have hc18 := ho18.le.1
 refine ⟨_, _, _, rfl, ⟨by omega, by show ((p.ops.length : Nat) : Int) ≤ _; omega⟩, ?_⟩
 rintro n19 rfl
 rw [e19]
 refine I9 (e := 46) (bytes := 40) (E := Enc.stepE) (by kernel_rfl) (z := .agg #[.int .i64 0, .int .i64 0, .int .i64 0, .int .u64 0, .float .f64 0]) (by kernel_rfl) (by omega) (by omega) fun b20 w20 hw20 hg20 => ⟨_, _, _, rfl, ?_⟩
 have hg020 := hg016.trans hg20
 refine I8 (l2 := steps) Mu (hw20.base hg016.size) (hr.grew hg020).1 rfl hr.2.2.1 hg020.size (by simp; omega) (by simp; omega) ?_
 rintro v w23 ⟨a25, n25, c25, rfl, ho25, hu25, hb25⟩
 have hg023 : Grew w w23 := hg020.then_own hu25 fun b hb => Nat.le_trans hg016.size (hw20.blk hb).1
 have ho18a := (ho18.grew hg20).upd hu25 fun b hb hb' => Cn (ho18.grew hg20) hw20 (by decide) b hb hb'
 refine ⟨_, _, _, rfl, fun b26 w27 hal26 => ?_⟩
 refine Bz (l2 := [⟨73, 0, 0, ⟨0, 0⟩⟩, ⟨74, 0, 0, ⟨0, 0⟩⟩]) Mu ho25 hal26 rfl rfl hg023.size (by simp; omega) (by simp; omega) ?_
 rintro v w28 ⟨a30, n30, c30, rfl, ho30, hu30, hb30⟩
 have hg028 : Grew w w28 := hg023.then_own hu30 fun b hb => (ho25.blk hb).1
 have ho18b := ho18a.upd hu30 fun b hb hb' => Cn ho18a ho25 (by decide) b hb hb'
 have hn30 : n30 = steps.length + 2 := by rw [ho30.len]; simp
 have hc30 := ho30.le.1
 refine ⟨_, _, _, rfl, fun w31 hg31 => ⟨⟨by omega, by omega⟩, ?_⟩⟩
 have hg031 := hg028.trans hg31
 rw [Int.toNat_natCast, Int.toNat_natCast]
 have hro : Reads w31 Enc.op3 (a18, p.ops.length, c18) p.ops := by
  have := ((ho18b.grew hg31).take (k := p.ops.length) (by omega)).reads
  simpa using this
 have hrs : Reads w31 Enc.stepE (a30, steps.length, c30) steps := by
  have := ((ho30.grew hg31).take (k := steps.length) (by omega)).reads
  simpa using this
 refine (Iw (p := p) (o := (a18, p.ops.length, c18)) (hG.grew hg031) hp hs hro hrs).use fun v w32 ⟨hv, hg32⟩ => ?_
 have hg032 := hg031.trans hg32
 obtain ⟨t, e, hte⟩ : ∃ t e, It (Bm p steps) = .tuple #[.string (bs t), .int .i64 e] := by
  cases Bm p steps <;> exact ⟨_, _, rfl⟩
 rw [hte] at hv
 subst hv
 refine ⟨_, _, rfl, (Iw (p := p) (o := (oa, p.ops.length, oc)) (hG.grew hg032) hp hs (ho.grew hg032) (hr.grew hg032)).use fun v w37 ⟨hv, hg37⟩ => ?_⟩
 rw [hte] at hv
 subst hv
 have hg037 := hg032.trans hg37
 refine ⟨_, _, rfl, _, P4, fun h => ?_, fun _ => ⟨fun h => ?_, fun _ => (Lj (p := p) (q := p) (o := (oa, p.ops.length, oc)) (o' := (a18, p.ops.length, c18)) (ho.grew hg037) (hro.grew (hg32.trans hg37)) hpl).use fun v w43 ⟨hv, hg43⟩ => ?_⟩⟩
 ·simp at h
 ·simp at h
 subst hv
 refine ⟨_, rfl, fun h => ?_, fun _ => ⟨⟨by omega, by omega⟩, (Kh (hrs.grew (hg32.trans (hg37.trans hg43))) (hr.grew (hg037.trans hg43)) hnl).use fun v w47 ⟨hv, hg47⟩ => ?_⟩⟩
 ·simp at h
 subst hv
 refine ⟨_, rfl, fun h => ?_, fun _ => ?_⟩
 ·simp at h
 have hgs := hg31.trans (hg32.trans (hg37.trans (hg43.trans hg47)))
 have hg047 := hg028.trans hgs
 have kO : ∀ k : Nat, k < 2 → ∃ d, a18 = some d ∧ w47.cell? (Addr.add d ((p.ops.length + k) * 3)) = some (.int .i64 (71 + k)) := fun k hk => by
  obtain ⟨d, x, hd, hx, h0, -⟩ := (ho18b.grew hgs).reads.at0 (k := p.ops.length + k) (by omega)
  refine ⟨d, hd, ?_⟩
  have e : x.kind = 71 + k := by
   simp only [List.nil_append] at hx
   rw [List.getElem?_append_right (by omega), Nat.add_sub_cancel_left] at hx
   rcases (by omega : k = 0 ∨ k = 1) with rfl | rfl <;> cases hx <;> rfl
  rw [← e]; exact h0
 have kS : ∀ k : Nat, k < 2 → ∃ d, a30 = some d ∧ w47.cell? (Addr.add d ((steps.length + k) * 5)) = some (.int .i64 (73 + k)) := fun k hk => by
  obtain ⟨d, x, hd, hx, h0, -⟩ := (ho30.grew hgs).reads.at0 (k := steps.length + k) (by omega)
  refine ⟨d, hd, ?_⟩
  have e : x.kind = 73 + k := by
   simp only [List.nil_append] at hx
   rw [List.getElem?_append_right (by omega), Nat.add_sub_cancel_left] at hx
   rcases (by omega : k = 0 ∨ k = 1) with rfl | rfl <;> cases hx <;> rfl
  rw [← e]; exact h0
 obtain ⟨d0, hd0, k0⟩ := kO 0 (by omega)
 obtain ⟨d1, hd1, k1⟩ := kO 1 (by omega)
 obtain ⟨d3, hd3, k3⟩ := kS 0 (by omega)
 obtain ⟨d4, hd4, k4⟩ := kS 1 (by omega)
 have ew1 : IntKind.i64.wrap (((p.ops.length : Nat) : Int) + 1) = ((p.ops.length + 1 : Nat) : Int) := by rw [IntKind.wrap_i64]; omega
 have ew2 : IntKind.i64.wrap (((steps.length : Nat) : Int) + 1) = ((steps.length + 1 : Nat) : Int) := by rw [IntKind.wrap_i64]; omega
 subst hd0
 cases hd1
 subst hd3
 cases hd4
 simp only [Ac, Int.toNat_natCast]
 refine ⟨⟨by omega, by omega⟩, _, k0, fun h => (by cases h), fun _ => ?_⟩
 rintro n53 rfl
 rw [ew1, Int.toNat_natCast]
 refine ⟨⟨by omega, by omega⟩, _, k1, fun h => (by cases h), fun _ => ⟨⟨by omega, by omega⟩, _, k3, fun h => (by cases h), fun _ => ?_⟩⟩
 rintro n58 rfl
 rw [ew2, Int.toNat_natCast]
 refine ⟨⟨by omega, by omega⟩, _, k4, fun h => (by cases h), fun _ => ⟨fun _ => ⟨_, rfl, rfl, hg047⟩, fun he => ?_⟩⟩
 have he0 : e = 0 := by simpa using he
 subst he0
 have hpr : Bm p steps = .ok t := by
  cases hq : Bm p steps with
  | error e =>
   rw [hq] at hte
   have := No hq
   simp only [It, Value.tuple.injEq, Array.mk.injEq, List.cons.injEq, Value.int.injEq] at hte
   omega
  | ok u =>
   rw [hq] at hte
   simp only [It, Value.tuple.injEq, Array.mk.injEq, List.cons.injEq, Value.string.injEq] at hte
   rw [Qb.1 hte.1]
 have hback := back hp hs hpr
 refine (E8 (t := t) (hG.grew hg047)).use fun v w61 ⟨hv, hg61⟩ => ?_
 rw [hback] at hv
 obtain ⟨⟨oa1, on1, oc1⟩, ⟨sa1, sn1, sc1⟩, rfl, ho1, hs1⟩ := D4 hv
 have hon1 : on1 = p.ops.length := ho1.len
 have hsn1 : sn1 = steps.length := hs1.len
 subst hon1; subst hsn1
 refine ⟨_, _, _, _, _, _, _, _, _, _, _, _, _, _, _, rfl, fun w75 hg75 => (E8 (t := t) (hG.grew (hg047.trans (hg61.trans hg75)))).use fun v w76 ⟨hv, hg76⟩ => ?_⟩
 rw [hback] at hv
 obtain ⟨⟨oa2, on2, oc2⟩, ⟨sa2, sn2, sc2⟩, rfl, ho2, hs2⟩ := D4 hv
 have hon2 : on2 = p.ops.length := ho2.len
 have hsn2 : sn2 = steps.length := hs2.len
 subst hon2; subst hsn2
 refine ⟨_, _, _, _, _, _, _, _, _, _, _, _, _, _, _, rfl, fun w90 hg90 => ?_⟩
 have hgp := hg75.trans (hg76.trans hg90)
 have hg090 : Grew w w90 := hg047.trans (hg61.trans hgp)
 have hO1 := ho1.grew hgp
 have hS1 := hs1.grew hgp
 have hO2 := ho2.grew hg90
 have hS2 := hs2.grew hg90
 simp only [pP, pL] at hO1 hS1 hO2 hS2
 have h12 : w61.heap.size ≤ w75.heap.size := hg75.size
 have oO : ∀ b, Blk oa1 b → ¬ Blk oa2 b := fun b h h' => by have := (ho1.blk h).2; have := (ho2.blk h').1; omega
 have oS : ∀ b, Blk sa1 b → ¬ Blk sa2 b := fun b h h' => by have := (hs1.blk h).2; have := (hs2.blk h').1; omega
 refine ⟨fun n w' => ∃ (j : Nat) (l : List OpV), n = j ∧ l.length = p.ops.length ∧ Own w' w47.heap.size 49 Enc.op3 oa1 p.ops.length oc1 l ∧ Upd (Blk oa1) w90 w', fun n _ => p.ops.length - n.toNat, ⟨0, _, rfl, rfl, hO1, Upd.refl _ _⟩, ?_⟩
 rintro n92 w93 ⟨j, l, rfl, hl, hO, hu⟩
 refine ⟨fun hlt => ?_, fun _ => ?_⟩
 ·simp only [decide_eq_true_eq] at hlt
  have hjl : j < p.ops.length := by omega
  obtain ⟨d, hd, q1, q2, q3⟩ := hO.set (i := j) (by omega) ⟨9, 0, 0⟩
  subst hd
  simp only [Ac, Int.toNat_natCast]
  refine ⟨⟨by omega, by omega⟩, q1, ?_⟩
  rintro w95 rfl
  rw [C7 (by omega)]
  refine ⟨⟨j + 1, _, rfl, by rw [List.length_set]; exact hl, q2, hu.trans q3⟩, ?_⟩
  show p.ops.length - (((j + 1 : Nat) : Int)).toNat < p.ops.length - ((j : Nat) : Int).toNat; omega
 have hS1' := hS1.upd hu fun b hb hb' => Cn hS1 hO1 (by decide) b hb hb'
 refine ⟨fun n w' => ∃ (j : Nat) (l' : List Af), n = j ∧ l'.length = steps.length ∧ Own w' w47.heap.size 46 Enc.stepE sa1 steps.length sc1 l' ∧ Upd (Blk sa1) w93 w', fun n _ => steps.length - n.toNat, ⟨0, _, rfl, rfl, hS1', Upd.refl _ _⟩, ?_⟩
 rintro n97 w98 ⟨j', l', rfl, hl', hS, hu'⟩
 refine ⟨fun hlt => ?_, fun _ => ?_⟩
 ·simp only [decide_eq_true_eq] at hlt
  have hjl : j' < steps.length := by omega
  obtain ⟨d, hd, q1, q2, q3⟩ := hS.set (i := j') (by omega) ⟨9, 0, 0, ⟨0, 0⟩⟩
  subst hd
  simp only [Ac, Int.toNat_natCast]
  refine ⟨⟨by omega, by omega⟩, q1, ?_⟩
  rintro w100 rfl
  rw [C7 (by omega)]
  refine ⟨⟨j' + 1, _, rfl, by rw [List.length_set]; exact hl', q2, hu'.trans q3⟩, ?_⟩
  show steps.length - (((j' + 1 : Nat) : Int)).toNat < steps.length - ((j' : Nat) : Int).toNat; omega
 have hg098 : Grew w w98 := (hg090.then_own hu fun b hb => Nat.le_trans hg047.size (hO1.blk hb).1).then_own hu' fun b hb => Nat.le_trans hg047.size (hS1'.blk hb).1
 have hO' := hO.upd hu' fun b hb hb' => Cn hO hS1' (by decide) b hb hb'
 have hO2a := hO2.upd hu fun b hb hb' => oO b hb' hb
 have hS2a := hS2.upd hu fun b hb hb' => Cn hS2 hO1 (by decide) b hb hb'
 have hO2b := hO2a.upd hu' fun b hb hb' => Cn hO2a hS1' (by decide) b hb hb'
 have hS2b := hS2a.upd hu' fun b hb hb' => oS b hb' hb
 refine ⟨fun a102 l102 c102 n103 _ _ _ a107 l107 c107 _ _ _ _ w' => ∃ j : Nat, n103 = j ∧ j ≤ 9 ∧ MemI w w47.heap.size w75.heap.size p steps (oa2, p.ops.length, oc2) (sa2, steps.length, sc2) j (a107, l107, c107) (a102, l102, c102) w', fun _ _ _ n103 _ _ _ _ _ _ _ _ _ _ _ => 9 - n103.toNat,
  ⟨0, rfl, by omega, ⟨⟨l, hl, hO'⟩, ⟨l', hl', hS⟩, hO2b, hS2b, oO, oS, hg098, Nat.le_trans (Nat.le_trans (hg61.trans hgp).size hu.size) hu'.size⟩⟩, ?_⟩
 rintro a102 l102 c102 n103 _ _ _ a107 l107 c107 _ _ _ _ w112 ⟨j, rfl, hj, hI⟩
 obtain ⟨lo, hlo, hOo⟩ := hI.ops
 obtain ⟨ls, hls, hSo⟩ := hI.stp
 have hO2i := hI.ops2
 have hS2i := hI.stp2
 have hoff := hI.offO
 have hoffS := hI.offS
 simp only at hOo hSo hO2i hS2i hoff hoffS
 refine ⟨fun hlt => ?_, fun hge => ?_⟩
 ·simp only [decide_eq_true_eq] at hlt
  intro b113 w114 hal113
  refine Bz (l2 := [⟨8, 0, 0⟩]) Mt hOo hal113 rfl rfl hI.sz (by simp; omega) (by simp; omega) ?_
  rintro v w115 ⟨a117, n117, c117, rfl, hOn, huO, hbO⟩
  have hSm := hSo.upd huO fun b hb hb' => Cn hSo hOo (by decide) b hb hb'
  have hO2m := hO2i.upd huO fun b hb hb' => hoff b hb' hb
  have hS2m := hS2i.upd huO fun b hb hb' => Cn hS2i hOo (by decide) b hb hb'
  have hg115 := hI.grew.then_own huO fun b hb => Nat.le_trans hg047.size (hOo.blk hb).1
  refine ⟨_, _, _, rfl, fun b118 w119 hal118 => ?_⟩
  refine Bz (l2 := [⟨8, 0, 0, ⟨0, 0⟩⟩]) Mu hSm hal118 rfl rfl (Nat.le_trans hI.sz huO.size) (by simp; omega) (by simp; omega) ?_
  rintro v w120 ⟨a122, n122, c122, rfl, hSn, huS, hbS⟩
  have hOm := hOn.upd huS fun b hb hb' => Cn hOn hSm (by decide) b hb hb'
  have hO2n := hO2m.upd huS fun b hb hb' => Cn hO2m hSm (by decide) b hb hb'
  have hS2n := hS2m.upd huS fun b hb hb' => hoffS b hb' hb
  have hg120 := hg115.then_own huS fun b hb => Nat.le_trans hg047.size (hSm.blk hb).1
  refine ⟨_, _, _, rfl, ?_⟩
  rintro n123 rfl
  rw [C7 (by omega)]
  refine ⟨⟨j + 1, rfl, by omega, ⟨⟨_, by simp; omega, hOm⟩, ⟨_, by simp; omega, hSn⟩, hO2n, hS2n, fun b hb hb' => ?_, fun b hb hb' => ?_, hg120, Nat.le_trans (Nat.le_trans hI.sz huO.size) huS.size⟩⟩, ?_⟩
  ·rcases hbO b hb with h | h
   ·exact hoff b h hb'
   ·have := (hO2i.blk hb').2; omega
  ·rcases hbS b hb with h | h
   ·exact hoffS b h hb'
   ·have := (hS2m.blk hb').2; omega
  ·show 9 - (((j + 1 : Nat) : Int)).toNat < 9 - ((j : Nat) : Int).toNat; omega
 ·simp only [decide_eq_false_iff_not] at hge
  have : j = 9 := by omega
  subst this
  refine ⟨fun _ => ⟨fun _ => (Lj (p := p) (q := p) (o := (oa2, p.ops.length, oc2)) (o' := (oa, p.ops.length, oc)) hO2i.reads (ho.grew hI.grew) hpl).use fun v w124 ⟨hv, hg124⟩ => ?_, fun h => (by cases h)⟩, fun h => (by cases h)⟩
  subst hv
  refine ⟨_, rfl, fun _ => (Kh (hS2i.reads.grew hg124) (hr.grew (hI.grew.trans hg124)) hnl).use fun v w128 ⟨hv, hg128⟩ => ?_, fun h => ?_⟩
  ·subst hv
   refine ⟨_, rfl, fun _ => ?_, fun h => ?_⟩
   ·rintro n132 rfl
    refine ⟨_, rfl, ?_, hI.grew.trans (hg124.trans hg128)⟩
    have : l102 = steps.length + 9 := by rw [hSo.len, hls]
    rw [this]
    have : IntKind.i64.wrap (((steps.length : Nat) : Int) + 9) = ((steps.length + 9 : Nat) : Int) := by rw [IntKind.wrap_i64]; omega
    rw [this]; simp
   ·simp at h
  ·simp at h
open Go.ChangeShapes Go.WideShapes Go.ChangeAt Go.RowKit
set_option maxRecDepth 100000 in
theorem scriptMemory_lifted (os : Os) (started : os.Started) (H : Type) (enc : TypeId × Value → H) :
  ReturnsInHanded {} Tryz.checked os 9 .any (fun w args => (Rows.scriptMemorySpec.pre enc Tryz.prog Tryz.f9 Rows.scriptMemoryRow.domain false w args ∧ laidMetH Tryz.prog Iy w) ∧ sizedMet enc Tryz.prog Tryz.f9 (OpenSpec.ofChange Rows.scriptMemorySpec) false w args) (Rows.scriptMemorySpec.post enc Tryz.prog Tryz.f9 false true false false) := by
 refine returnsInHanded_of_change_and (C := Tryz.checked) (X := fun w _ => laidMetH Tryz.prog Iy w) (fun _ _ _ hh h => h.of_heap hh) own started (by kernel_rfl) Tryz.func9
  (ChangeSpec.witness_shaped (enc := enc) (C := Tryz.checked) (os := os) (X := fun w _ => laidMetH Tryz.prog Iy w) false (World.laidAll Tryz.prog os Iy) #[.agg #[.int .i64 0, .int .i64 0, .int .i64 0, .slice none 0 0, .int .i64 0, .int .i64 0, .int .i64 0, .int .i64 0], .slice none 0 0] 8 (World.laidAll_os _ _ _)
   (World.shaped_of_ZipB (by kernel_rfl) (by kernel_rfl)) (by kernel_rfl) (by kernel_rfl) (by kernel_rfl) (O9 os _)) ?_
 intro W base args ds gs before hval0 hW hcnd hsz0 hL0 _
 have hL := P0 hL0
 have hval : ∀ (j : Nat) t v, Tryz.f9.params[j]? = some t → args[j]? = some v → Value.okWide Tryz.prog W .any base t v := hval0
 have hW' := hW
 obtain ⟨p, q, hA0, hV, rfl, hfz, hnd⟩ := hW
 have hA : DataW.TrodAll enc Tryz.prog W 0 (fun _ => true) true Tryz.f9.params.toList args.toList ds p := hA0
 have hsz : (DataW.weightsEach Tryz.prog (Tryz.f9.params.toList ++ _) (ds ++ gs)).all (· ≤ reachBytes) = true := hsz0
 rw [show Tryz.f9.params = #[25, 26] from by kernel_rfl] at hA hval hsz
 have hA1 := hA
 obtain ⟨v0, vs0, d0, ds0, p0, q0, hargs, rfl, rfl, h0, r0⟩ := trodAll_cons hA
 obtain ⟨v1, vs1, d1, ds1, p1, q1, rfl, rfl, rfl, h1, r1⟩ := trodAll_cons r0
 obtain ⟨rfl, rfl, rfl⟩ := trodAll_nil r1
 obtain rfl : args = #[v0, v1] := by cases args; simp_all
 obtain ⟨p0, o0, rfl, hp0⟩ := Nq (j := 0) hsz rfl rfl (hval 0 25 v0 rfl rfl) h0
 obtain ⟨a1, n1, c1, l1, rfl, hr1, hcl1, hn1, hb1⟩ := Ku (P := Tryz.prog) (t := 26) (e := 46) (Pk (e := 46) (j := 1) hsz rfl rfl (by kernel_rfl) (hval 1 26 v1 rfl rfl) h1) (by kernel_rfl) Lk (by kernel_rfl) (B := 40) (by kernel_rfl) (E := Enc.stepE) rfl Pd
 clear hA0 hA1 hval0 hsz0
 refine (Aa.calls ⟨_, Tryz.func9, by kernel_rfl, by kernel_rfl⟩ (Hg hL hp0 hr1 hcl1 hn1 hb1)).mono fun e W' ⟨w', hh, hk, v, he, hv, hg⟩ => ?_
 subst he; subst hv
 exact ⟨_, rfl, M0 (tb := 4) (by kernel_rfl) rfl (by kernel_rfl) (by kernel_rfl) ⟨rfl, rfl, rfl⟩ (by decide +kernel) hW' (Nz hg hh hk)⟩
theorem F5 : Rows.ScriptMemorySaid :=
 OpenClaim.holds_of_wide 9 Tryz.f9 rfl rfl rfl rfl rfl rfl rfl ⟨rfl, rfl, rfl, rfl, rfl⟩ rfl rfl rfl rfl rfl (by kernel_rfl) Tryz.func9 (by kernel_rfl)
  (of_decide_eq_true (by kernel_rfl)) (by unfold Func.isWrapper; first | (rw [if_pos (by decide +kernel)]; kernel_rfl) | (rw [if_neg (by decide +kernel)]; exact ⟨rfl, rfl⟩))
  (fun os started H enc _ => scriptMemory_lifted os started H enc)
theorem scriptMemory_card : Rows.ScriptMemoryCardSaid :=
 Claim7.holds_tied_plain_at .later [] [.data, .data, .data, .data, .sentinel, .sentinel, .pinned] true (true, "b64c46686f643c001f31f6c1b533c0d7c0642b988dd47f138c5c01a8a4cb7604") true F5 (fun _ h => by cases h) (by kernel_rfl) (fun _ h => by cases h) scriptMemory_row_tie rfl ⟨rfl, rfl⟩ (by kernel_rfl) rfl
  (fun f fn hf hfn => by
   obtain rfl : f = 9 := Option.some.inj ((show Tryz.prog.funcNamed "reprise/repriselaw21.ScriptMemory" = some 9 by kernel_rfl).symm.trans hf) |>.symm
   obtain rfl : fn = Tryz.f9 := (Option.some.inj (Tryz.func9.symm.trans hfn)).symm
   exact ⟨by kernel_rfl, fun j t ht => by
    rw [show Tryz.f9.params = #[25, 26] from by kernel_rfl] at ht
    have hm : t ∈ [25, 26] := by simpa using Array.mem_of_getElem? ht
    have hall : ([25, 26].all fun u => !Tryz.prog.wantsStandIn u) = true := by kernel_rfl
    exact (show Tryz.prog.wantsStandIn t = false by simpa using List.all_eq_true.1 hall t hm)⟩)
  (by kernel_rfl)
end Go.Proofs.YtbmmaibbiahkkaaGreatDoor
