/- MarkBytes: what it computes, and its row. Conditions: none. -/
import Derived.Test.YteakjjbajjkloaaProg
import Derived.Test.YteakjjbajjkloaaMarkA
import Derived.Test.YteakjjbajjkloaaRows
namespace Go.Proofs.Yteakjjbajjkloaa
open Go.Sx
set_option maxRecDepth 100000
set_option linter.unusedVariables false
set_option linter.unusedSimpArgs false
/- reprise/repriselaw12.MarkBytes -/
def sx3 (m_0 : Int) (m_1 : Int) (m_2 : Option Addr) (m_2_n m_2_c : Nat) (R : Ending → World → Prop) (w : World) : Prop :=
  ∀ w1, Grew w w1 → CallsW Try.prog 11 [] w1 (RetR R fun u3 w2 => ∃ (b4 : Bool), u3 = .bool b4 ∧ (((!b4) = true → R (.returned (.bool false)) w2) ∧ ((!b4) = false → CallsW Try.prog 12 [.agg #[.int .i64 m_0, .int .i64 m_1,
    .slice m_2 m_2_n m_2_c]] w2 (RetR R fun u7 w6 => ∃ (a8 : Option Addr) (l8 c8 : Nat) (n9 : Int), u7 = .tuple #[.slice a8 l8 c8, .int .i64 n9] ∧ CallsW Try.prog 13 [.agg #[.int .i64 m_0, .int .i64 m_1, .slice m_2 m_2_n
    m_2_c]] w6 (RetR R fun u12 w11 => ∃ (a13 : Option Addr) (l13 c13 : Nat) (n14 : Int), u12 = .tuple #[.slice a13 l13 c13, .int .i64 n14] ∧ ∀ w16, Grew w11 w16 → CallsW Try.prog 14 [.agg #[.int .i64 m_0, .int .i64 m_1,
    .slice m_2 m_2_n m_2_c]] w16 (Ret (fun u18 w17 => ∃ (b19 : Bool), u18 = .bool b19 ∧ SameB w16 w17 [] ∧ CallsW Try.prog 15 [.agg #[.int .i64 m_0, .int .i64 m_1, .slice m_2 m_2_n m_2_c]] w17 (Ret (fun u22 w21 => ∃ (b23
    : Bool), u22 = .bool b23 ∧ SameB w17 w21 [] ∧ (((b19 == b23) = true → ((SemW Try.prog (convert 26 9 (.slice a8 l8 c8)) (fun u26 w25 => ∃ (s27 : ByteArray), u26 = .string s27 ∧ SameB w21 w25 [] ∧ SemW Try.prog (convert
    26 9 (.slice a13 l13 c13)) (fun u29 w28 => ∃ (s30 : ByteArray), u29 = .string s30 ∧ SameB w25 w28 [] ∧ ∃ (b31 : Bool), PureTo Try.prog (eqS .eql 9 (.tmp 26) (.tmp 28) (.string s27) (.string s30)) (.bool b31) ∧ ((b31 =
    true → R (.returned (.bool (n9 == n14))) w28) ∧ (b31 = false → R (.returned (.bool false)) w28))) w25) w21) ∧ (SemW Try.prog (convert 26 9 (.slice a13 l13 c13)) (fun u33 w32 => ∃ (s34 : ByteArray), u33 = .string s34 ∧
    SameB w21 w32 [] ∧ SemW Try.prog (convert 26 9 (.slice a8 l8 c8)) (fun u36 w35 => ∃ (s37 : ByteArray), u36 = .string s37 ∧ SameB w32 w35 [] ∧ ∃ (b38 : Bool), PureTo Try.prog (eqS .eql 9 (.tmp 26) (.tmp 28) (.string
    s37) (.string s34)) (.bool b38) ∧ ((b38 = true → R (.returned (.bool (n9 == n14))) w35) ∧ (b38 = false → R (.returned (.bool false)) w35))) w32) w21))) ∧ ((b19 == b23) = false → ((R (.returned (.bool false)) w21) ∧ (R
    (.returned (.bool false)) w21))))) (fun c24 w21 => False))) (fun c20 w17 => False)))))))
theorem sx3.ok {m_0 : Int} {m_1 : Int} {m_2 : Option Addr} {m_2_n m_2_c : Nat} {R : Ending → World → Prop} {w : World} (h : sx3 m_0 m_1 m_2 m_2_n m_2_c R w) : CallsW Try.prog 3 [.agg #[.int .i64 m_0, .int .i64 m_1, .slice m_2 m_2_n m_2_c]] w R :=
  callsW_of mix Try.func3 (by kernel_rfl) (by kernel_rfl) (Eq.mpr (by kernel_rfl : denFn Try.prog { locals := [1], pureTo := [29], sem := [26, 28], draws := [(5, { order := (.cons 0 (.cons 2 (.cons 1 (.cons 3 (.cons 4 (.cons 5 (.cons 6 (.cons 8 (.alt (.cons 7 (.cons 9 (.cons 10 (.cons 11 (.cons 12 (.cons 13 (.cons 14 (.cons 15 (.cons 16 (.cons 17 .nil)))))))))) (.cons 9 (.cons 7 (.cons 10 (.cons 11 (.cons 12 (.cons 13 (.cons 14 (.cons 15 (.cons 16 (.cons 17 .nil))))))))))))))))))), bars := [] })] } Try.f3 [.agg #[.int .i64 m_0, .int .i64 m_1, .slice m_2 m_2_n m_2_c]] R w = sx3 m_0 m_1 m_2 m_2_n m_2_c R w) h)


theorem MarkBytes_ok {m : MarkV} {a : Option Addr} {n c : Nat} {w : World} (hr : Reads w (Enc.int .u64) (a, n, c) m.keys) (hf : m.Fits) (hl : m.keys.length ≤ maxLen) (hb : m.keys.length * 8 ≤ 140737488351232) :
    CallsW Try.prog 3 [mval m a n c] w (Rets fun v w' => v = .bool true ∧ Grew w w') := by
  refine sx3.ok ?_
  unfold sx3
  have hlen : m.keys.length ≤ 9223372036854775806 := by omega
  intro w1 hg1
  refine awakeM_ok.use fun v w2 ⟨hv, hg2⟩ => ?_
  subst hv
  have hg2 := hg1.trans hg2
  refine ⟨_, rfl, fun h => (by cases h), fun _ => ?_⟩
  refine (MEncode_ok (hr.grew hg2) hf.ks hlen).use fun v w6 ⟨a8, l8, c8, hv, ho6, hg6⟩ => ?_
  subst hv
  have hg6 := hg2.trans hg6
  refine ⟨_, _, _, _, rfl, (rMEncode_ok (hr.grew hg6) hf.ks hlen).use fun v w11 ⟨a13, l13, c13, hv, ho11, hg11⟩ => ?_⟩
  subst hv
  refine ⟨_, _, _, _, rfl, fun w16 hg16 => ?_⟩
  have hg16' := hg6.trans (hg11.trans hg16)
  refine (Sound_ok (hr.grew hg16') hlen).use' fun v w17 ⟨hv, hg17⟩ => ?_
  subst hv
  have hg17' := hg16'.trans hg17
  refine ⟨_, rfl, trivial, (rSound_ok (hr.grew hg17') hlen).use' fun v w21 ⟨hv, hg21⟩ => ?_⟩
  subst hv
  have hg21' := hg17'.trans hg21
  have h6 := (ho6.grew ((((show Grew w6 w11 by assumption).trans hg16).trans hg17).trans hg21)).reads
  have h11 := (ho11.grew ((hg16.trans hg17).trans hg21)).reads
  refine ⟨_, rfl, trivial, fun _ => ⟨?_, ?_⟩, fun h => (by simp at h)⟩
  · refine conv_str (e := 5) (by kernel_rfl) (by kernel_rfl) (by kernel_rfl) h6 ⟨_, rfl, trivial, conv_str (e := 5) (by kernel_rfl) (by kernel_rfl) (by kernel_rfl) h11 ⟨_, rfl, trivial, _, eqS_str, fun _ => ⟨_, rfl, by simp, hg21'⟩, fun h => ?_⟩⟩
    rw [beq_toListBytes] at h; simp at h
  · refine conv_str (e := 5) (by kernel_rfl) (by kernel_rfl) (by kernel_rfl) h11 ⟨_, rfl, trivial, conv_str (e := 5) (by kernel_rfl) (by kernel_rfl) (by kernel_rfl) h6 ⟨_, rfl, trivial, _, eqS_str, fun _ => ⟨_, rfl, by simp, hg21'⟩, fun h => ?_⟩⟩
    rw [beq_toListBytes] at h; simp at h

open Go.ChangeShapes Go.WideShapes Go.ChangeAt Go.RowKit
set_option maxRecDepth 100000 in
theorem markBytes_lifted (os : Os) (started : os.Started) (H : Type) (enc : TypeId × Value → H) :
    ReturnsInHanded {} Try.checked os 3 .any (Rows.markBytesSpec.pre6 enc Try.prog Try.f3 Rows.markBytesRow.domain false) (Rows.markBytesSpec.post enc Try.prog Try.f3 false true false false) := by
  refine returnsInHanded_of_change_sized (C := Try.checked) (by kernel_rfl) started (by kernel_rfl) Try.func3
    (ChangeSpec.witness6 (enc := enc) (C := Try.checked) false ⟨#[], #[.agg #[.int .i64 0, .int .i64 0, .slice none 0 0]], []⟩ 8 (by kernel_rfl) (by kernel_rfl) (by kernel_rfl) (by kernel_rfl)) ?_
  intro W base args ds gs before hval0 hW hcnd hsz0 _
  have hval : ∀ (j : Nat) t v, Try.f3.params[j]? = some t → args[j]? = some v → Value.okWide Try.prog W .any base t v := hval0
  have hW' := hW
  obtain ⟨p, q, hA0, hV, rfl, hfz, hnd⟩ := hW
  have hA : DataW.TrodAll enc Try.prog W 0 (fun _ => true) true Try.f3.params.toList args.toList ds p := hA0
  have hsz : (DataW.weightsEach Try.prog (Try.f3.params.toList ++ _) (ds ++ gs)).all (· ≤ reachBytes) = true := hsz0
  rw [show Try.f3.params = #[24] from by kernel_rfl] at hA hval hsz
  have hA1 := hA
  obtain ⟨v0, vs0, d0, ds0, p0, q0, hargs, rfl, rfl, h0, r0⟩ := trodAll_cons hA
  obtain ⟨rfl, rfl, rfl⟩ := trodAll_nil r0
  obtain rfl : args = #[v0] := by cases args; simp_all
  obtain ⟨m0, a0, n0, c0, rfl, hr0, hf0, hl0, hb0⟩ := openMark (j := 0) hsz rfl rfl (hval 0 24 v0 rfl rfl) h0
  clear hA0 hA1 hval0 hsz0
  refine (CallsW.calls ⟨_, Try.func3, by kernel_rfl, by kernel_rfl⟩ (MarkBytes_ok hr0 hf0 hl0 hb0)).mono fun e W' ⟨w', hh, hk, v, he, hv, hg⟩ => ?_
  subst he; subst hv
  exact ⟨_, rfl, post_true (tb := 4) (by kernel_rfl) rfl (by kernel_rfl) (by kernel_rfl) ⟨rfl, rfl, rfl⟩ (by decide +kernel) hW' (below_of hg hh hk)⟩

theorem markBytes_holds : Rows.MarkBytesSaid :=
  OpenClaim.holds_of_wide 3 Try.f3 rfl rfl rfl rfl rfl rfl rfl ⟨rfl, rfl, rfl, rfl, rfl⟩ rfl rfl rfl rfl rfl (by kernel_rfl) Try.func3 (by kernel_rfl)
    (of_decide_eq_true (by kernel_rfl)) (by unfold Func.isWrapper; first | (rw [if_pos (by decide +kernel)]; kernel_rfl) | (rw [if_neg (by decide +kernel)]; exact ⟨rfl, rfl⟩))
    (fun os started H enc _ => markBytes_lifted os started H enc)
end Go.Proofs.Yteakjjbajjkloaa
