/- BucketActs: what it computes, and its row. Conditions: none. -/
import Derived.Test.YtnbknhcpjggabaaProg
import Derived.Test.YtnbknhcpjggabaaRef4
import Derived.Test.YtnbknhcpjggabaaSxQ
import Derived.Test.YtnbknhcpjggabaaRows
namespace Go.Proofs.Ytnbknhcpjggabaa
open Go.Sx
set_option maxRecDepth 100000
set_option linter.unusedVariables false
set_option linter.unusedSimpArgs false
/- reprise/repriselaw11.BucketActs -/
def sx5 (d : Option Addr) (d_n d_c : Nat) (i_0 : Int) (i_1 : Bool) (i_2 : Int) (i_3 : Bool) (i_4 : Int) (i_5 : Int) (R : Ending → World → Prop) (w : World) : Prop :=
  ∀ w1, Grew w w1 → CallsW Try.prog 9 [] w1 (RetR R fun u3 w2 => ∃ (b4 : Bool), u3 = .bool b4 ∧ (((!b4) = true → R (.returned (.bool false)) w2) ∧ ((!b4) = false → CallsW Try.prog 15 [.slice d d_n d_c, .int .u64 i_0] w2
    (RetR R fun u7 w6 => ∃ (n8 : Int) (b9 : Bool), u7 = .tuple #[.int .i64 n8, .bool b9] ∧ CallsW Try.prog 16 [.slice d d_n d_c, .int .u64 i_0] w6 (RetR R fun u12 w11 => ∃ (n13 : Int) (b14 : Bool), u12 = .tuple #[.int
    .i64 n13, .bool b14] ∧ (((n8 != n13) = true → R (.returned (.bool false)) w11) ∧ ((n8 != n13) = false → (((!(b9 == b14)) = true → R (.returned (.bool false)) w11) ∧ ((!(b9 == b14)) = false → CallsW Try.prog 17 [.slice
    d d_n d_c, .agg #[.int .u64 i_0, .bool i_1, .int .u64 i_2, .bool i_3, .int .u64 i_4, .int .i64 i_5]] w11 (RetR R fun u17 w16 => ∃ (a18 : Option Addr) (l18 c18 : Nat) (n19 : Int), u17 = .tuple #[.slice a18 l18 c18,
    .int .i64 n19] ∧ CallsW Try.prog 18 [.slice d d_n d_c, .agg #[.int .u64 i_0, .bool i_1, .int .u64 i_2, .bool i_3, .int .u64 i_4, .int .i64 i_5]] w16 (RetR R fun u22 w21 => ∃ (a23 : Option Addr) (l23 c23 : Nat) (n24 :
    Int), u22 = .tuple #[.slice a23 l23 c23, .int .i64 n24] ∧ CallsW Try.prog 14 [.slice a18 l18 c18, .slice a23 l23 c23] w21 (RetR R fun u27 w26 => ∃ (b28 : Bool), u27 = .bool b28 ∧ (((!b28) = true → R (.returned (.bool
    false)) w26) ∧ ((!b28) = false → (((n19 != n24) = true → R (.returned (.bool false)) w26) ∧ ((n19 != n24) = false → CallsW Try.prog 19 [.slice d d_n d_c, .int .u64 i_0] w26 (RetR R fun u31 w30 => ∃ (a32 : Option Addr)
    (l32 c32 : Nat) (n33 : Int), u31 = .tuple #[.slice a32 l32 c32, .int .i64 n33] ∧ CallsW Try.prog 20 [.slice d d_n d_c, .int .u64 i_0] w30 (RetR R fun u36 w35 => ∃ (a37 : Option Addr) (l37 c37 : Nat) (n38 : Int), u36 =
    .tuple #[.slice a37 l37 c37, .int .i64 n38] ∧ CallsW Try.prog 14 [.slice a32 l32 c32, .slice a37 l37 c37] w35 (RetR R fun u41 w40 => ∃ (b42 : Bool), u41 = .bool b42 ∧ ((b42 = true → R (.returned (.bool (n33 == n38)))
    w40) ∧ (b42 = false → R (.returned (.bool false)) w40)))))))))))))))))))))
theorem sx5.ok {d : Option Addr} {d_n d_c : Nat} {i_0 : Int} {i_1 : Bool} {i_2 : Int} {i_3 : Bool} {i_4 : Int} {i_5 : Int} {R : Ending → World → Prop} {w : World} (h : sx5 d d_n d_c i_0 i_1 i_2 i_3 i_4 i_5 R w) : CallsW Try.prog 5 [.slice d d_n d_c, .agg #[.int .u64 i_0, .bool i_1, .int .u64 i_2, .bool i_3, .int .u64 i_4, .int .i64 i_5]] w R :=
  callsW_of mix Try.func5 (by kernel_rfl) (by kernel_rfl) (Eq.mpr (by kernel_rfl : denFn Try.prog { locals := [3] } Try.f5 [.slice d d_n d_c, .agg #[.int .u64 i_0, .bool i_1, .int .u64 i_2, .bool i_3, .int .u64 i_4, .int .i64 i_5]] R w = sx5 d d_n d_c i_0 i_1 i_2 i_3 i_4 i_5 R w) h)


theorem cell_kinds : kindsOf Try.prog 8 37 = some [.int .u64, .bool, .int .u64, .bool, .int .u64, .int .i64] := by kernel_rfl
theorem cell_of_kinds (cs : List Value) (h : AllK [.int .u64, .bool, .int .u64, .bool, .int .u64, .int .i64] cs) : ∃ x : CellV, cs = Enc.cell.f x ∧ x.Fits := by
  obtain ⟨hl, h⟩ := h
  match cs, hl with
  | [c0, c1, c2, c3, c4, c5], _ =>
    obtain ⟨_, e0, n0, rfl, w0⟩ := h 0 _ rfl
    obtain ⟨_, e1, b1, rfl⟩ := h 1 _ rfl
    obtain ⟨_, e2, n2, rfl, w2⟩ := h 2 _ rfl
    obtain ⟨_, e3, b3, rfl⟩ := h 3 _ rfl
    obtain ⟨_, e4, n4, rfl, w4⟩ := h 4 _ rfl
    obtain ⟨_, e5, n5, rfl, w5⟩ := h 5 _ rfl
    simp at e0 e1 e2 e3 e4 e5
    subst e0; subst e1; subst e2; subst e3; subst e4; subst e5
    refine ⟨⟨n0, b1, n2, b3, n4, n5⟩, rfl, ?_⟩
    simp [Lit.wf, IntKind.min, IntKind.max, IntKind.signed, IntKind.bits] at w0 w2 w4 w5
    constructor <;> simp [u64m] <;> omega

theorem BucketActs_ok {a : Option Addr} {n c : Nat} {l : List CellV} {x : CellV} {w : World} (hr : Reads w Enc.cell (a, n, c) l) (hf : Cells l) (hl : l.length * 48 ≤ 140737488351232) (hx : x.Fits) :
    CallsW Try.prog 5 [.slice a n c, .agg (Enc.cell.f x).toArray] w (Rets fun v w' => v = .bool true ∧ Grew w w') := by
  refine sx5.ok ?_
  unfold sx5
  intro w1 hg1
  refine awake_ok.use fun v w2 ⟨hv, hg2⟩ => ?_
  subst hv
  have hg2 := hg1.trans hg2
  refine ⟨_, rfl, fun h => (by cases h), fun _ => ?_⟩
  refine (Find_ok (hr.grew hg2) (by omega)).use fun v w6 ⟨hv, hg6⟩ => ?_
  subst hv
  have hg6 := hg2.trans hg6
  refine ⟨_, _, rfl, (rFind_ok (hr.grew hg6) (by omega)).use fun v w11 ⟨hv, hg11⟩ => ?_⟩
  subst hv
  have hg11 := hg6.trans hg11
  refine ⟨_, _, rfl, fun h => (by simp at h), fun _ => ⟨fun h => (by simp at h), fun _ => ?_⟩⟩
  refine (Put_cells_ok (x := x) (hr.grew hg11) (by omega)).use fun v w16 ⟨a18, l18, c18, hv, ho16, hg16⟩ => ?_
  subst hv
  refine ⟨_, _, _, _, rfl, (rPutC_ok (x := x) ((hr.grew hg11).grew hg16) (by omega)).use fun v w21 ⟨a23, l23, c23, hv, ho21, hg21⟩ => ?_⟩
  subst hv
  refine ⟨_, _, _, _, rfl, (same_ok (ho16.grew hg21).reads ho21.reads ?_).use fun v w26 ⟨hv, hg26⟩ => ?_⟩
  · have := ho16.len; have := ho16.le; simp only [maxLen] at this; omega
  subst hv
  refine ⟨_, rfl, fun h => (by simp at h), fun _ => ⟨fun h => (by simp at h), fun _ => ?_⟩⟩
  have hg26 := ((hg11.trans hg16).trans hg21).trans hg26
  refine (Drop_ok (hr.grew hg26) (by omega)).use fun v w30 ⟨a32, l32, c32, hv, ho30, hg30⟩ => ?_
  subst hv
  refine ⟨_, _, _, _, rfl, (rDropC_ok ((hr.grew hg26).grew hg30) (by omega)).use fun v w35 ⟨a37, l37, c37, hv, ho35, hg35⟩ => ?_⟩
  subst hv
  refine ⟨_, _, _, _, rfl, (same_ok (ho30.grew hg35).reads ho35.reads ?_).use fun v w40 ⟨hv, hg40⟩ => ?_⟩
  · have := ho30.len; have := ho30.le; simp only [maxLen] at this; omega
  subst hv
  exact ⟨_, rfl, fun _ => ⟨_, rfl, by simp, hg26.trans (hg30.trans (hg35.trans hg40))⟩, fun h => by simp at h⟩

open Go.ChangeShapes Go.WideShapes Go.ChangeAt Go.RowKit
set_option maxRecDepth 100000 in
theorem bucketActs_lifted (os : Os) (started : os.Started) (H : Type) (enc : TypeId × Value → H) :
    ReturnsInHanded {} Try.checked os 5 .any (Rows.bucketActsSpec.pre6 enc Try.prog Try.f5 Rows.bucketActsRow.domain false) (Rows.bucketActsSpec.post enc Try.prog Try.f5 false true false false) := by
  refine returnsInHanded_of_change_sized (C := Try.checked) (by kernel_rfl) started (by kernel_rfl) Try.func5
    (ChangeSpec.witness6 (enc := enc) (C := Try.checked) false ⟨#[], #[.slice none 0 0, .agg (Enc.cell.f cell0).toArray], []⟩ 8 (by kernel_rfl) (by kernel_rfl) (by kernel_rfl) (by kernel_rfl)) ?_
  intro W base args ds gs before hval0 hW hcnd hsz0 _
  have hval : ∀ (j : Nat) t v, Try.f5.params[j]? = some t → args[j]? = some v → Value.okWide Try.prog W .any base t v := hval0
  have hW' := hW
  obtain ⟨p, q, hA0, hV, rfl, hfz, hnd⟩ := hW
  have hA : DataW.TrodAll enc Try.prog W 0 (fun _ => true) true Try.f5.params.toList args.toList ds p := hA0
  have hsz : (DataW.weightsEach Try.prog (Try.f5.params.toList ++ _) (ds ++ gs)).all (· ≤ reachBytes) = true := hsz0
  rw [show Try.f5.params = #[22, 37] from by kernel_rfl] at hA hval hsz
  have hA1 := hA
  obtain ⟨v0, vs0, d0, ds0, p0, q0, hargs, rfl, rfl, h0, r0⟩ := trodAll_cons hA
  obtain ⟨v1, vs1, d1, ds1, p1, q1, rfl, rfl, rfl, h1, r1⟩ := trodAll_cons r0
  obtain ⟨rfl, rfl, rfl⟩ := trodAll_nil r1
  obtain rfl : args = #[v0, v1] := by cases args; simp_all
  obtain ⟨a0, n0, c0, l0, rfl, hr0, hcl0, hn0, hs0⟩ := open_flat (P := Try.prog) (t := 22) (e := 37) (by kernel_rfl) cell_kinds (by kernel_rfl) (hval 0 22 v0 rfl rfl) h0 (E := Enc.cell) rfl cell_of_kinds
  have hb0 : l0.length * 48 ≤ 140737488351232 := by have h1 := sized_len hsz (j := 0) (t := 22) (e := 37) rfl rfl (by kernel_rfl) (B := 48) (by kernel_rfl) hs0; have h2 := hr0.2.1; simp only at h2; omega
  obtain ⟨x1, rfl, hcl1⟩ := open_struct (P := Try.prog) (t := 37) (by kernel_rfl) cell_kinds (hval 1 37 v1 rfl rfl) h1 (E := Enc.cell) cell_of_kinds
  clear hA0 hA1 hval0 hsz0
  refine (CallsW.calls ⟨_, Try.func5, by kernel_rfl, by kernel_rfl⟩ (BucketActs_ok hr0 hcl0 hb0 hcl1)).mono fun e W' ⟨w', hh, hk, v, he, hv, hg⟩ => ?_
  subst he; subst hv
  exact ⟨_, rfl, post_true (tb := 4) (by kernel_rfl) rfl (by kernel_rfl) (by kernel_rfl) ⟨rfl, rfl, rfl⟩ (by decide +kernel) hW' (below_of hg hh hk)⟩

theorem bucketActs_holds : Rows.BucketActsSaid :=
  OpenClaim.holds_of_wide 5 Try.f5 rfl rfl rfl rfl rfl rfl rfl ⟨rfl, rfl, rfl, rfl, rfl⟩ rfl rfl rfl rfl rfl (by kernel_rfl) Try.func5 (by kernel_rfl)
    (of_decide_eq_true (by kernel_rfl)) (by unfold Func.isWrapper; first | (rw [if_pos (by decide +kernel)]; kernel_rfl) | (rw [if_neg (by decide +kernel)]; exact ⟨rfl, rfl⟩))
    (fun os started H enc _ => bucketActs_lifted os started H enc)
end Go.Proofs.Ytnbknhcpjggabaa
