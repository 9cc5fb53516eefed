/- MarkRow: what it computes, and its row. Conditions: none. -/
import Derived.Test.YteakjjbajjkloaaProg
import Derived.Test.YteakjjbajjkloaaMarkA
import Derived.Test.YteakjjbajjkloaaRows
import Derived.Test.YteakjjbajjkloaaSxQ
namespace Go.Proofs.Yteakjjbajjkloaa
open Go.Sx
set_option maxRecDepth 100000
set_option linter.unusedVariables false
set_option linter.unusedSimpArgs false
/- reprise/repriselaw12.MarkRow -/
def sx8 (d_0 : Int) (d_1 : Int) (i_0 : Int) (i_1 : Int) (p2_0 : Int) (p2_1 : Int) (R : Ending → World → Prop) (w : World) : Prop :=
  ∀ w1, Grew w w1 → ∀ w2, Grew w1 w2 → ∀ w3, Grew w2 w3 → CallsW Try.prog 11 [] w3 (RetR R fun u5 w4 => ∃ (b6 : Bool), u5 = .bool b6 ∧ (((!b6) = true → R (.returned (.bool false)) w4) ∧ ((!b6) = false → CallsW Try.prog 21
    [.int .i64 d_0, .int .i64 d_1, .int .i64 i_0, .int .i64 i_1] w4 (RetR R fun u9 w8 => ∃ (n10 : Int), u9 = .int .i64 n10 ∧ CallsW Try.prog 21 [.int .i64 i_0, .int .i64 i_1, .int .i64 p2_0, .int .i64 p2_1] w8 (RetR R fun
    u13 w12 => ∃ (n14 : Int), u13 = .int .i64 n14 ∧ CallsW Try.prog 21 [.int .i64 d_0, .int .i64 d_1, .int .i64 p2_0, .int .i64 p2_1] w12 (RetR R fun u17 w16 => ∃ (n18 : Int), u17 = .int .i64 n18 ∧ (((decide (n10 < (-1)))
    = true → R (.returned (.bool false)) w16) ∧ ((decide (n10 < (-1))) = false → (((decide (n10 > 1)) = true → R (.returned (.bool false)) w16) ∧ ((decide (n10 > 1)) = false → CallsW Try.prog 21 [.int .i64 i_0, .int .i64
    i_1, .int .i64 d_0, .int .i64 d_1] w16 (RetR R fun u21 w20 => ∃ (n22 : Int), u21 = .int .i64 n22 ∧ (((n22 != IntKind.i64.wrap (0 - n10)) = true → R (.returned (.bool false)) w20) ∧ ((n22 != IntKind.i64.wrap (0 - n10))
    = false → ∃ (b24 : Bool), PureTo Try.prog (eqS .eql 46 (.tmp 64) (.tmp 65) (.agg #[.int .i64 d_0, .int .i64 d_1]) (.agg #[.int .i64 i_0, .int .i64 i_1])) (.bool b24) ∧ (((!((n10 == 0) == b24)) = true → R (.returned
    (.bool false)) w20) ∧ ((!((n10 == 0) == b24)) = false → ∃ (J25 : World → Prop), ((((decide (n10 ≤ 0)) = true → (((decide (n14 ≤ 0)) = true → (((decide (n18 > 0)) = true → R (.returned (.bool false)) w20) ∧ ((decide
    (n18 > 0)) = false → (((decide (d_0 < i_0)) = true → (((n10 != (-1)) = true → R (.returned (.bool false)) w20) ∧ ((n10 != (-1)) = false → (((d_0 == i_0) = true → (((decide (d_1 < i_1)) = true → (((n10 != (-1)) = true
    → R (.returned (.bool false)) w20) ∧ ((n10 != (-1)) = false → J25 w20))) ∧ ((decide (d_1 < i_1)) = false → J25 w20))) ∧ ((d_0 == i_0) = false → J25 w20))))) ∧ ((decide (d_0 < i_0)) = false → (((d_0 == i_0) = true →
    (((decide (d_1 < i_1)) = true → (((n10 != (-1)) = true → R (.returned (.bool false)) w20) ∧ ((n10 != (-1)) = false → J25 w20))) ∧ ((decide (d_1 < i_1)) = false → J25 w20))) ∧ ((d_0 == i_0) = false → J25 w20))))))) ∧
    ((decide (n14 ≤ 0)) = false → (((decide (d_0 < i_0)) = true → (((n10 != (-1)) = true → R (.returned (.bool false)) w20) ∧ ((n10 != (-1)) = false → (((d_0 == i_0) = true → (((decide (d_1 < i_1)) = true → (((n10 !=
    (-1)) = true → R (.returned (.bool false)) w20) ∧ ((n10 != (-1)) = false → J25 w20))) ∧ ((decide (d_1 < i_1)) = false → J25 w20))) ∧ ((d_0 == i_0) = false → J25 w20))))) ∧ ((decide (d_0 < i_0)) = false → (((d_0 ==
    i_0) = true → (((decide (d_1 < i_1)) = true → (((n10 != (-1)) = true → R (.returned (.bool false)) w20) ∧ ((n10 != (-1)) = false → J25 w20))) ∧ ((decide (d_1 < i_1)) = false → J25 w20))) ∧ ((d_0 == i_0) = false → J25
    w20))))))) ∧ ((decide (n10 ≤ 0)) = false → (((decide (d_0 < i_0)) = true → (((n10 != (-1)) = true → R (.returned (.bool false)) w20) ∧ ((n10 != (-1)) = false → (((d_0 == i_0) = true → (((decide (d_1 < i_1)) = true →
    (((n10 != (-1)) = true → R (.returned (.bool false)) w20) ∧ ((n10 != (-1)) = false → J25 w20))) ∧ ((decide (d_1 < i_1)) = false → J25 w20))) ∧ ((d_0 == i_0) = false → J25 w20))))) ∧ ((decide (d_0 < i_0)) = false →
    (((d_0 == i_0) = true → (((decide (d_1 < i_1)) = true → (((n10 != (-1)) = true → R (.returned (.bool false)) w20) ∧ ((n10 != (-1)) = false → J25 w20))) ∧ ((decide (d_1 < i_1)) = false → J25 w20))) ∧ ((d_0 == i_0) =
    false → J25 w20))))))) ∧ ∀  (w26 : World), J25 w26 → CallsW Try.prog 19 [.agg #[.int .i64 i_0, .int .i64 i_1, .slice none 0 0], .int .i64 d_0, .int .i64 d_1] w26 (RetR R fun u28 w27 => ∃ (n29 : Int), u28 = .int .i64
    n29 ∧ CallsW Try.prog 19 [.agg #[.int .i64 p2_0, .int .i64 p2_1, .slice none 0 0], .int .i64 d_0, .int .i64 d_1] w27 (RetR R fun u32 w31 => ∃ (n33 : Int), u32 = .int .i64 n33 ∧ (((decide (d_0 < 1)) = true → (((n29 ==
    1) = true → R (.returned (.bool (n33 == 1))) w31) ∧ ((n29 == 1) = false → R (.returned (.bool false)) w31))) ∧ ((decide (d_0 < 1)) = false → (((decide (d_1 < 1)) = true → (((n29 == 1) = true → R (.returned (.bool (n33
    == 1))) w31) ∧ ((n29 == 1) = false → R (.returned (.bool false)) w31))) ∧ ((decide (d_1 < 1)) = false → (((!((n29 == 0) == (n10 == 0))) = true → R (.returned (.bool false)) w31) ∧ ((!((n29 == 0) == (n10 == 0))) =
    false → (((!((n29 == 130) == decide (n10 < 0))) = true → R (.returned (.bool false)) w31) ∧ ((!((n29 == 130) == decide (n10 < 0))) = false → (((!((n29 == 131) == decide (n10 > 0))) = true → R (.returned (.bool false))
    w31) ∧ ((!((n29 == 131) == decide (n10 > 0))) = false → (((n29 != 130) = true → R (.returned (.bool true)) w31) ∧ ((n29 != 130) = false → (((decide (n14 > 0)) = true → R (.returned (.bool true)) w31) ∧ ((decide (n14 >
    0)) = false → R (.returned (.bool (n33 == 130))) w31)))))))))))))))))))))))))))))))
theorem sx8.ok {d_0 : Int} {d_1 : Int} {i_0 : Int} {i_1 : Int} {p2_0 : Int} {p2_1 : Int} {R : Ending → World → Prop} {w : World} (h : sx8 d_0 d_1 i_0 i_1 p2_0 p2_1 R w) : CallsW Try.prog 8 [.agg #[.int .i64 d_0, .int .i64 d_1], .agg #[.int .i64 i_0, .int .i64 i_1], .agg #[.int .i64 p2_0, .int .i64 p2_1]] w R :=
  callsW_of mix Try.func8 (by kernel_rfl) (by kernel_rfl) (Eq.mpr (by kernel_rfl : denFn Try.prog { locals := [3, 4, 5], pureTo := [66], cuts := [(10, { slots := [], cells := [] })] } Try.f8 [.agg #[.int .i64 d_0, .int .i64 d_1], .agg #[.int .i64 i_0, .int .i64 i_1], .agg #[.int .i64 p2_0, .int .i64 p2_1]] R w = sx8 d_0 d_1 i_0 i_1 p2_0 p2_1 R w) h)


theorem cmpM_cases (b a ob oa : Int) : (cmpM b a ob oa = -1 ∧ (b < ob ∨ (b = ob ∧ a < oa))) ∨ (cmpM b a ob oa = 0 ∧ b = ob ∧ a = oa) ∨ (cmpM b a ob oa = 1 ∧ (ob < b ∨ (b = ob ∧ oa < a))) := by
  unfold cmpM cmpI
  repeat' split
  all_goals omega
theorem judgeM_cases (m : MarkV) (b a : Int) : (judgeM m b a = 1 ∧ (b < 1 ∨ a < 1)) ∨ (¬ b < 1 ∧ ¬ a < 1 ∧ ((judgeM m b a = 130 ∧ cmpM b a m.batch m.attempt = -1) ∨ (judgeM m b a = 131 ∧ cmpM b a m.batch m.attempt = 1) ∨ (judgeM m b a = 0 ∧ cmpM b a m.batch m.attempt = 0))) := by
  unfold judgeM
  have := cmpM_cases b a m.batch m.attempt
  repeat' split
  all_goals omega

/-- two numbers -/
structure PairR where
  b : Int
  a : Int
def Enc.pairR : Enc PairR := ⟨2, fun x => [.int .i64 x.b, .int .i64 x.a], fun _ => rfl, by decide, fun x v h => by simp at h; rcases h with rfl | rfl <;> rfl⟩
theorem pair_kinds : kindsOf Try.prog 8 46 = some [.int .i64, .int .i64] := by kernel_rfl
def PairR.Fits (x : PairR) : Prop := (-9223372036854775808 ≤ x.b ∧ x.b < 9223372036854775808) ∧ (-9223372036854775808 ≤ x.a ∧ x.a < 9223372036854775808)
theorem pair_of (cs : List Value) (h : AllK [.int .i64, .int .i64] cs) : ∃ x : PairR, cs = Enc.pairR.f x ∧ x.Fits := by
  obtain ⟨hl, h⟩ := h
  match cs, hl with
  | [c0, c1], _ =>
    obtain ⟨_, e0, n0, rfl, w0⟩ := h 0 _ rfl
    obtain ⟨_, e1, n1, rfl, w1⟩ := h 1 _ rfl
    simp at e0 e1
    subst e0; subst e1
    refine ⟨⟨n0, n1⟩, rfl, ?_⟩
    simp [Lit.wf, IntKind.min, IntKind.max, IntKind.signed, IntKind.bits] at w0 w1
    constructor <;> simp only <;> omega

set_option maxHeartbeats 4000000 in
theorem MarkRow_ok {x y z : PairR} {w : World} (hx : x.Fits) (hy : y.Fits) (hz : z.Fits) :
    CallsW Try.prog 8 [.agg (Enc.pairR.f x).toArray, .agg (Enc.pairR.f y).toArray, .agg (Enc.pairR.f z).toArray] w (Rets fun v w' => v = .bool true ∧ Grew w w') := by
  refine sx8.ok ?_
  unfold sx8
  obtain ⟨ab, aa⟩ := x
  obtain ⟨bb, ba⟩ := y
  obtain ⟨cb, ca⟩ := z
  intro w1 hg1 w2 hg2 w3 hg3
  refine awakeM_ok.use fun v w4 ⟨hv, hg4⟩ => ?_
  subst hv
  have hg4 := hg1.trans (hg2.trans (hg3.trans hg4))
  refine ⟨_, rfl, fun h => (by cases h), fun _ => ?_⟩
  refine MCompare_ok.use fun v w8 ⟨hv, hg8⟩ => ?_
  subst hv
  refine ⟨_, rfl, MCompare_ok.use fun v w12 ⟨hv, hg12⟩ => ?_⟩
  subst hv
  refine ⟨_, rfl, MCompare_ok.use fun v w16 ⟨hv, hg16⟩ => ?_⟩
  subst hv
  have hg16 := hg4.trans (hg8.trans (hg12.trans hg16))
  have h1 := cmpM_cases ab aa bb ba
  have h2 := cmpM_cases bb ba cb ca
  have h3 := cmpM_cases ab aa cb ca
  have h4 := cmpM_cases bb ba ab aa
  obtain ⟨p, hp⟩ : ∃ p, p = cmpM ab aa bb ba := ⟨_, rfl⟩
  obtain ⟨q, hq⟩ : ∃ q, q = cmpM bb ba cb ca := ⟨_, rfl⟩
  obtain ⟨r, hr⟩ : ∃ r, r = cmpM ab aa cb ca := ⟨_, rfl⟩
  obtain ⟨s, hs⟩ : ∃ s, s = cmpM bb ba ab aa := ⟨_, rfl⟩
  rw [← hp] at h1 ⊢
  rw [← hq] at h2 ⊢
  rw [← hr] at h3 ⊢
  rw [← hs] at h4
  refine ⟨_, rfl, fun h => (by exfalso; simp only [decide_eq_true_eq] at h; omega), fun _ => ⟨fun h => (by exfalso; simp only [decide_eq_true_eq] at h; omega), fun _ => ?_⟩⟩
  refine MCompare_ok.use fun v w20 ⟨hv, hg20⟩ => ?_
  subst hv
  rw [← hs]
  have hg20 := hg16.trans hg20
  have hw : IntKind.i64.wrap (0 - p) = - p := by rw [IntKind.wrap_i64]; omega
  rw [hw]
  refine ⟨_, rfl, fun h => (by exfalso; simp only [bne_iff_ne, ne_eq] at h; omega), fun _ => ⟨((ab == bb) && ((aa == ba) && true)), eqS_eql (by kernel_rfl) (by kernel_rfl), fun h => ?_, fun _ => ?_⟩⟩
  · exfalso
    have hk : (p == 0) = ((ab == bb) && ((aa == ba) && true)) := by
      rw [Bool.eq_iff_iff]; simp only [Bool.and_true, Bool.and_eq_true, beq_iff_eq]; omega
    rw [hk] at h; simp at h
  refine ⟨fun w' => Grew w w', ?_, fun w26 hg26 => ?_⟩
  · repeat' first
      | exact hg20
      | refine And.intro (fun h => ?_) (fun h => ?_)
      | (exfalso; simp only [decide_eq_true_eq, decide_eq_false_iff_not, bne_iff_ne, beq_iff_eq, beq_eq_false_iff_ne, ne_eq] at *; omega)
  refine (Judge_ok (m := ⟨bb, ba, []⟩)).use fun v w27 ⟨hv, hg27⟩ => ?_
  subst hv
  refine ⟨_, rfl, (Judge_ok (m := ⟨cb, ca, []⟩)).use fun v w31 ⟨hv, hg31⟩ => ?_⟩
  subst hv
  have hg31 := hg26.trans (hg27.trans hg31)
  have j1 := judgeM_cases ⟨bb, ba, []⟩ ab aa
  have j2 := judgeM_cases ⟨cb, ca, []⟩ ab aa
  simp only at j1 j2
  rw [← hp] at j1
  rw [← hr] at j2
  obtain ⟨u, hu⟩ : ∃ u, u = judgeM ⟨bb, ba, []⟩ ab aa := ⟨_, rfl⟩
  obtain ⟨t, ht⟩ : ∃ t, t = judgeM ⟨cb, ca, []⟩ ab aa := ⟨_, rfl⟩
  rw [← hu] at j1 ⊢
  rw [← ht] at j2 ⊢
  have fin : ∀ b : Bool, b = true → Rets (fun v w' => v = Value.bool true ∧ Grew w w') (.returned (.bool b)) w31 := fun b hb => ⟨_, rfl, by rw [hb], hg31⟩
  have k1 : ((u == 0) == (p == 0)) = true ∨ (ab < 1 ∨ aa < 1) := by
    rcases j1 with ⟨-, h⟩ | ⟨-, -, h⟩
    · exact .inr h
    · left; rcases h with ⟨e1, e2⟩ | ⟨e1, e2⟩ | ⟨e1, e2⟩ <;> rw [e1, e2] <;> decide
  have k2 : ((u == 130) == decide (p < 0)) = true ∨ (ab < 1 ∨ aa < 1) := by
    rcases j1 with ⟨-, h⟩ | ⟨-, -, h⟩
    · exact .inr h
    · left; rcases h with ⟨e1, e2⟩ | ⟨e1, e2⟩ | ⟨e1, e2⟩ <;> rw [e1, e2] <;> decide
  have k3 : ((u == 131) == decide (p > 0)) = true ∨ (ab < 1 ∨ aa < 1) := by
    rcases j1 with ⟨-, h⟩ | ⟨-, -, h⟩
    · exact .inr h
    · left; rcases h with ⟨e1, e2⟩ | ⟨e1, e2⟩ | ⟨e1, e2⟩ <;> rw [e1, e2] <;> decide
  refine ⟨_, rfl, fun ha => ⟨fun _ => fin _ ?_, fun h => ?_⟩, fun ha => ⟨fun hb => ⟨fun _ => fin _ ?_, fun h => ?_⟩, fun hb => ⟨fun h => ?_, fun _ => ⟨fun h => ?_, fun _ => ⟨fun h => ?_, fun _ => ⟨fun _ => ⟨_, rfl, rfl, hg31⟩, fun h130 => ⟨fun _ => ⟨_, rfl, rfl, hg31⟩, fun hbc => fin _ ?_⟩⟩⟩⟩⟩⟩⟩
  all_goals simp only [decide_eq_true_eq, decide_eq_false_iff_not] at ha
  · simp only [beq_iff_eq]; omega
  · exfalso; simp only [beq_eq_false_iff_ne, ne_eq] at h; omega
  · simp only [decide_eq_true_eq] at hb; simp only [beq_iff_eq]; omega
  · exfalso; simp only [decide_eq_true_eq] at hb; simp only [beq_eq_false_iff_ne, ne_eq] at h; omega
  · exfalso; simp only [decide_eq_false_iff_not] at hb
    rcases k1 with k | k
    · rw [k] at h; cases h
    · omega
  · exfalso; simp only [decide_eq_false_iff_not] at hb
    rcases k2 with k | k
    · rw [k] at h; cases h
    · omega
  · exfalso; simp only [decide_eq_false_iff_not] at hb
    rcases k3 with k | k
    · rw [k] at h; cases h
    · omega
  · simp only [decide_eq_false_iff_not] at hb hbc
    have hu130 : u = 130 := by simpa using h130
    simp only [beq_iff_eq]; omega

open Go.ChangeShapes Go.WideShapes Go.ChangeAt Go.RowKit
set_option maxRecDepth 100000 in
theorem markRow_lifted (os : Os) (started : os.Started) (H : Type) (enc : TypeId × Value → H) :
    ReturnsInHanded {} Try.checked os 8 .any (Rows.markRowSpec.pre6 enc Try.prog Try.f8 Rows.markRowRow.domain false) (Rows.markRowSpec.post enc Try.prog Try.f8 false true false false) := by
  refine returnsInHanded_of_change_sized (C := Try.checked) (by kernel_rfl) started (by kernel_rfl) Try.func8
    (ChangeSpec.witness6 (enc := enc) (C := Try.checked) false ⟨#[], #[.agg #[.int .i64 0, .int .i64 0], .agg #[.int .i64 0, .int .i64 0], .agg #[.int .i64 0, .int .i64 0]], []⟩ 8 (by kernel_rfl) (by kernel_rfl) (by kernel_rfl) (by kernel_rfl)) ?_
  intro W base args ds gs before hval0 hW hcnd hsz0 _
  have hval : ∀ (j : Nat) t v, Try.f8.params[j]? = some t → args[j]? = some v → Value.okWide Try.prog W .any base t v := hval0
  have hW' := hW
  obtain ⟨p, q, hA0, hV, rfl, hfz, hnd⟩ := hW
  have hA : DataW.TrodAll enc Try.prog W 0 (fun _ => true) true Try.f8.params.toList args.toList ds p := hA0
  have hsz : (DataW.weightsEach Try.prog (Try.f8.params.toList ++ _) (ds ++ gs)).all (· ≤ reachBytes) = true := hsz0
  rw [show Try.f8.params = #[46, 46, 46] from by kernel_rfl] at hA hval hsz
  have hA1 := hA
  obtain ⟨v0, vs0, d0, ds0, p0, q0, hargs, rfl, rfl, h0, r0⟩ := trodAll_cons hA
  obtain ⟨v1, vs1, d1, ds1, p1, q1, rfl, rfl, rfl, h1, r1⟩ := trodAll_cons r0
  obtain ⟨v2, vs2, d2, ds2, p2, q2, rfl, rfl, rfl, h2, r2⟩ := trodAll_cons r1
  obtain ⟨rfl, rfl, rfl⟩ := trodAll_nil r2
  obtain rfl : args = #[v0, v1, v2] := by cases args; simp_all
  obtain ⟨x0, rfl, hcl0⟩ := open_struct (P := Try.prog) (t := 46) (by kernel_rfl) pair_kinds (hval 0 46 v0 rfl rfl) h0 (E := Enc.pairR) pair_of
  obtain ⟨x1, rfl, hcl1⟩ := open_struct (P := Try.prog) (t := 46) (by kernel_rfl) pair_kinds (hval 1 46 v1 rfl rfl) h1 (E := Enc.pairR) pair_of
  obtain ⟨x2, rfl, hcl2⟩ := open_struct (P := Try.prog) (t := 46) (by kernel_rfl) pair_kinds (hval 2 46 v2 rfl rfl) h2 (E := Enc.pairR) pair_of
  clear hA0 hA1 hval0 hsz0
  refine (CallsW.calls ⟨_, Try.func8, by kernel_rfl, by kernel_rfl⟩ (MarkRow_ok hcl0 hcl1 hcl2)).mono fun e W' ⟨w', hh, hk, v, he, hv, hg⟩ => ?_
  subst he; subst hv
  exact ⟨_, rfl, post_true (tb := 4) (by kernel_rfl) rfl (by kernel_rfl) (by kernel_rfl) ⟨rfl, rfl, rfl⟩ (by decide +kernel) hW' (below_of hg hh hk)⟩

theorem markRow_holds : Rows.MarkRowSaid :=
  OpenClaim.holds_of_wide 8 Try.f8 rfl rfl rfl rfl rfl rfl rfl ⟨rfl, rfl, rfl, rfl, rfl⟩ rfl rfl rfl rfl rfl (by kernel_rfl) Try.func8 (by kernel_rfl)
    (of_decide_eq_true (by kernel_rfl)) (by unfold Func.isWrapper; first | (rw [if_pos (by decide +kernel)]; kernel_rfl) | (rw [if_neg (by decide +kernel)]; exact ⟨rfl, rfl⟩))
    (fun os started H enc _ => markRow_lifted os started H enc)
end Go.Proofs.Yteakjjbajjkloaa
