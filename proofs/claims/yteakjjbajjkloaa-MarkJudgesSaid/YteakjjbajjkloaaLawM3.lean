/- MarkJudges: what it computes, and its row. Conditions: none. -/
import Derived.Test.YteakjjbajjkloaaProg
import Derived.Test.YteakjjbajjkloaaMarkA
import Derived.Test.YteakjjbajjkloaaRows
namespace Go.Proofs.Yteakjjbajjkloaa
open Go.Sx
set_option maxRecDepth 100000
set_option linter.unusedVariables false
set_option linter.unusedSimpArgs false
/- reprise/repriselaw12.MarkJudges -/
def sx5 (m_0 : Int) (m_1 : Int) (m_2 : Option Addr) (m_2_n m_2_c : Nat) (batch : Int) (attempt : Int) (R : Ending → World → Prop) (w : World) : Prop :=
  ∀ w1, Grew w w1 → CallsW Try.prog 11 [] w1 (RetR R fun u3 w2 => ∃ (b4 : Bool), u3 = .bool b4 ∧ (((!b4) = true → R (.returned (.bool false)) w2) ∧ ((!b4) = false → ∀ w6, Grew w2 w6 → CallsW Try.prog 19 [.agg #[.int .i64
    m_0, .int .i64 m_1, .slice m_2 m_2_n m_2_c], .int .i64 batch, .int .i64 attempt] w6 (Ret (fun u8 w7 => ∃ (n9 : Int), u8 = .int .i64 n9 ∧ SameB w6 w7 [] ∧ CallsW Try.prog 20 [.agg #[.int .i64 m_0, .int .i64 m_1, .slice
    m_2 m_2_n m_2_c], .int .i64 batch, .int .i64 attempt] w7 (Ret (fun u12 w11 => ∃ (n13 : Int), u12 = .int .i64 n13 ∧ (((n9 == n13) = true → CallsW Try.prog 21 [.int .i64 batch, .int .i64 attempt, .int .i64 m_0, .int
    .i64 m_1] w11 (Ret (fun u16 w15 => ∃ (n17 : Int), u16 = .int .i64 n17 ∧ SameB w11 w15 [] ∧ CallsW Try.prog 22 [.int .i64 batch, .int .i64 attempt, .int .i64 m_0, .int .i64 m_1] w15 (Ret (fun u20 w19 => ∃ (n21 : Int),
    u20 = .int .i64 n21 ∧ SameB w15 w19 [] ∧ R (.returned (.bool (n17 == n21))) w19) (fun c22 w19 => False))) (fun c18 w15 => False))) ∧ ((n9 == n13) = false → R (.returned (.bool false)) w11))) (fun c14 w11 => False)))
    (fun c10 w7 => False)))))
theorem sx5.ok {m_0 : Int} {m_1 : Int} {m_2 : Option Addr} {m_2_n m_2_c : Nat} {batch : Int} {attempt : Int} {R : Ending → World → Prop} {w : World} (h : sx5 m_0 m_1 m_2 m_2_n m_2_c batch attempt R w) : CallsW Try.prog 5 [.agg #[.int .i64 m_0, .int .i64 m_1, .slice m_2 m_2_n m_2_c], .int .i64 batch, .int .i64 attempt] w R :=
  callsW_of mix Try.func5 (by kernel_rfl) (by kernel_rfl) (Eq.mpr (by kernel_rfl : denFn Try.prog { locals := [3], draws := [(3, { order := (.cons 0 (.cons 1 (.cons 2 (.cons 4 (.cons 5 (.cons 6 (.cons 3 (.cons 7 (.cons 8 (.cons 9 (.cons 10 (.cons 11 (.cons 12 (.cons 13 (.cons 14 (.cons 15 (.cons 17 (.cons 18 (.cons 19 (.cons 20 (.cons 21 (.cons 22 (.cons 16 (.cons 23 (.cons 24 (.cons 25 (.cons 26 .nil))))))))))))))))))))))))))), bars := [7] })] } Try.f5 [.agg #[.int .i64 m_0, .int .i64 m_1, .slice m_2 m_2_n m_2_c], .int .i64 batch, .int .i64 attempt] R w = sx5 m_0 m_1 m_2 m_2_n m_2_c batch attempt R w) h)


theorem MarkJudges_ok {m : MarkV} {a : Option Addr} {n c : Nat} {b t : Int} {w : World} (hr : Reads w (Enc.int .u64) (a, n, c) m.keys) (hf : m.Fits) (hl : m.keys.length ≤ maxLen) (hb : m.keys.length * 8 ≤ 140737488351232) (h1 : (Lit.int .i64 b).wf = true) (h2 : (Lit.int .i64 t).wf = true) :
    CallsW Try.prog 5 [mval m a n c, .int .i64 b, .int .i64 t] w (Rets fun v w' => v = .bool true ∧ Grew w w') := by
  refine sx5.ok ?_
  unfold sx5
  intro w1 hg1
  refine awakeM_ok.use fun v w2 ⟨hv, hg2⟩ => ?_
  subst hv
  refine ⟨_, rfl, fun h => (by cases h), fun _ w6 hg6 => ?_⟩
  refine (Judge_ok (m := m)).use' fun v w7 ⟨hv, hg7⟩ => ?_
  subst hv
  refine ⟨_, rfl, trivial, (rJudge_ok (m := m)).use' fun v w11 ⟨hv, hg11⟩ => ?_⟩
  subst hv
  refine ⟨_, rfl, fun _ => MCompare_ok.use' fun v w15 ⟨hv, hg15⟩ => ?_, fun h => (by simp at h)⟩
  subst hv
  refine ⟨_, rfl, trivial, rMCompare_ok.use' fun v w19 ⟨hv, hg19⟩ => ?_⟩
  subst hv
  exact ⟨_, rfl, trivial, _, rfl, by simp, hg1.trans (hg2.trans (hg6.trans (hg7.trans (hg11.trans (hg15.trans hg19)))))⟩

open Go.ChangeShapes Go.WideShapes Go.ChangeAt Go.RowKit
set_option maxRecDepth 100000 in
theorem markJudges_lifted (os : Os) (started : os.Started) (H : Type) (enc : TypeId × Value → H) :
    ReturnsInHanded {} Try.checked os 5 .any (Rows.markJudgesSpec.pre6 enc Try.prog Try.f5 Rows.markJudgesRow.domain false) (Rows.markJudgesSpec.post enc Try.prog Try.f5 false true false false) := by
  refine returnsInHanded_of_change_sized (C := Try.checked) (by kernel_rfl) started (by kernel_rfl) Try.func5
    (ChangeSpec.witness6 (enc := enc) (C := Try.checked) false ⟨#[], #[.agg #[.int .i64 0, .int .i64 0, .slice none 0 0], .int .i64 0, .int .i64 0], []⟩ 8 (by kernel_rfl) (by kernel_rfl) (by kernel_rfl) (by kernel_rfl)) ?_
  intro W base args ds gs before hval0 hW hcnd hsz0 _
  have hval : ∀ (j : Nat) t v, Try.f5.params[j]? = some t → args[j]? = some v → Value.okWide Try.prog W .any base t v := hval0
  have hW' := hW
  obtain ⟨p, q, hA0, hV, rfl, hfz, hnd⟩ := hW
  have hA : DataW.TrodAll enc Try.prog W 0 (fun _ => true) true Try.f5.params.toList args.toList ds p := hA0
  have hsz : (DataW.weightsEach Try.prog (Try.f5.params.toList ++ _) (ds ++ gs)).all (· ≤ reachBytes) = true := hsz0
  rw [show Try.f5.params = #[24, 3, 3] from by kernel_rfl] at hA hval hsz
  have hA1 := hA
  obtain ⟨v0, vs0, d0, ds0, p0, q0, hargs, rfl, rfl, h0, r0⟩ := trodAll_cons hA
  obtain ⟨v1, vs1, d1, ds1, p1, q1, rfl, rfl, rfl, h1, r1⟩ := trodAll_cons r0
  obtain ⟨v2, vs2, d2, ds2, p2, q2, rfl, rfl, rfl, h2, r2⟩ := trodAll_cons r1
  obtain ⟨rfl, rfl, rfl⟩ := trodAll_nil r2
  obtain rfl : args = #[v0, v1, v2] := by cases args; simp_all
  obtain ⟨m0, a0, n0, c0, rfl, hr0, hf0, hl0, hb0⟩ := openMark (j := 0) hsz rfl rfl (hval 0 24 v0 rfl rfl) h0
  obtain ⟨x1, rfl, hcl1⟩ := Go.Sx.open_int (P := Try.prog) (k := .i64) (t := 3) (by kernel_rfl) (hval 1 3 v1 rfl rfl) h1
  obtain ⟨x2, rfl, hcl2⟩ := Go.Sx.open_int (P := Try.prog) (k := .i64) (t := 3) (by kernel_rfl) (hval 2 3 v2 rfl rfl) h2
  clear hA0 hA1 hval0 hsz0
  refine (CallsW.calls ⟨_, Try.func5, by kernel_rfl, by kernel_rfl⟩ (MarkJudges_ok hr0 hf0 hl0 hb0 hcl1 hcl2)).mono fun e W' ⟨w', hh, hk, v, he, hv, hg⟩ => ?_
  subst he; subst hv
  exact ⟨_, rfl, post_true (tb := 4) (by kernel_rfl) rfl (by kernel_rfl) (by kernel_rfl) ⟨rfl, rfl, rfl⟩ (by decide +kernel) hW' (below_of hg hh hk)⟩

theorem markJudges_holds : Rows.MarkJudgesSaid :=
  OpenClaim.holds_of_wide 5 Try.f5 rfl rfl rfl rfl rfl rfl rfl ⟨rfl, rfl, rfl, rfl, rfl⟩ rfl rfl rfl rfl rfl (by kernel_rfl) Try.func5 (by kernel_rfl)
    (of_decide_eq_true (by kernel_rfl)) (by unfold Func.isWrapper; first | (rw [if_pos (by decide +kernel)]; kernel_rfl) | (rw [if_neg (by decide +kernel)]; exact ⟨rfl, rfl⟩))
    (fun os started H enc _ => markJudges_lifted os started H enc)
end Go.Proofs.Yteakjjbajjkloaa
