/- FoldBatch: what it computes, and its row. Conditions: none. -/
import Derived.Test.YtoljpkdokpinhaaGreatProg
import Derived.Test.YtoljpkdokpinhaaGreatFoldB
import Derived.Test.YtoljpkdokpinhaaGreatSxX
import Derived.Test.YtoljpkdokpinhaaGreatRows
namespace Go.Proofs.YtoljpkdokpinhaaGreat
open Go.Sx
set_option maxRecDepth 100000
set_option linter.unusedVariables false
set_option linter.unusedSimpArgs false
/- reprise/repriselaw05.FoldBatch -/
def sx3 (list : Option Addr) (list_n list_c : Nat) (kind : Int) (recs : Option Addr) (recs_n recs_c : Nat) (R : Ending → World → Prop) (w : World) : Prop :=
  CallsW Tryz.prog 4 [] w (RetR R fun u2 w1 => ∃ (b3 : Bool), u2 = .bool b3 ∧ (((!b3) = true → R (.returned (.bool false)) w1) ∧ ((!b3) = false → (((decide (((recs_n : Nat) : Int) > 4096)) = true → R (.returned (.bool true))
    w1) ∧ ((decide (((recs_n : Nat) : Int) > 4096)) = false → CallsW Tryz.prog 5 [.slice list list_n list_c, .int .i64 kind, .slice recs recs_n recs_c] w1 (RetR R fun u6 w5 => ∃ (a7 : Option Addr) (l7 c7 : Nat) (n8 : Int)
    (n9 : Int), u6 = .tuple #[.slice a7 l7 c7, .int .i64 n8, .int .i64 n9] ∧ CallsW Tryz.prog 6 [.slice list list_n list_c, .int .i64 kind, .slice recs recs_n recs_c] w5 (RetR R fun u12 w11 => ∃ (a13 : Option Addr) (l13
    c13 : Nat) (n14 : Int) (n15 : Int), u12 = .tuple #[.slice a13 l13 c13, .int .i64 n14, .int .i64 n15] ∧ CallsW Tryz.prog 7 [.slice a7 l7 c7, .slice a13 l13 c13] w11 (RetR R fun u18 w17 => ∃ (b19 : Bool), u18 = .bool b19
    ∧ ((b19 = true → (((n8 == n14) = true → R (.returned (.bool (n9 == n15))) w17) ∧ ((n8 == n14) = false → R (.returned (.bool false)) w17))) ∧ (b19 = false → R (.returned (.bool false)) w17))))))))))
theorem sx3.ok {list : Option Addr} {list_n list_c : Nat} {kind : Int} {recs : Option Addr} {recs_n recs_c : Nat} {R : Ending → World → Prop} {w : World} (h : sx3 list list_n list_c kind recs recs_n recs_c R w) : CallsW Tryz.prog 3 [.slice list list_n list_c, .int .i64 kind, .slice recs recs_n recs_c] w R :=
  callsW_of mix Tryz.func3 (by kernel_rfl) (by kernel_rfl) (Eq.mpr (by kernel_rfl : denFn Tryz.prog {} Tryz.f3 [.slice list list_n list_c, .int .i64 kind, .slice recs recs_n recs_c] R w = sx3 list list_n list_c kind recs recs_n recs_c R w) h)


theorem op3_kinds : kinds2 Tryz.prog 8 33 = some [.int .i64, .int .i64, .float .f64] := by kernel_rfl
theorem rec_kinds : kinds2 Tryz.prog 8 36 = some [.int .u64, .float .f64] := by kernel_rfl
section
variable {H : Type} {enc : TypeId × Value → H}
theorem op3_of {S : TypeId → Value → Prop} (cs : List Value) (h : AllK2 S [.int .i64, .int .i64, .float .f64] cs) : ∃ x : OpV, cs = Enc.op3.f x ∧ x.Fits := by
  obtain ⟨hl, h⟩ := h
  match cs, hl with
  | [c0, c1, c2], _ =>
    obtain ⟨_, e0, n0, rfl, w0⟩ := h 0 _ rfl
    obtain ⟨_, e1, n1, rfl, w1⟩ := h 1 _ rfl
    obtain ⟨_, e2, n2, rfl, w2⟩ := h 2 _ rfl
    simp at e0 e1 e2; subst e0; subst e1; subst e2
    refine ⟨⟨n0, n1, n2⟩, rfl, ?_⟩
    simp [Lit.wf, IntKind.min, IntKind.max, IntKind.signed, IntKind.bits] at w0 w1 w2
    refine ⟨⟨?_, ?_⟩, ⟨?_, ?_⟩, ?_⟩ <;> simp only <;> omega
theorem rec_of {S : TypeId → Value → Prop} (cs : List Value) (h : AllK2 S [.int .u64, .float .f64] cs) : ∃ x : RecV, cs = Enc.rcd.f x ∧ x.Fits := by
  obtain ⟨hl, h⟩ := h
  match cs, hl with
  | [c0, c1], _ =>
    obtain ⟨_, e0, n0, rfl, w0⟩ := h 0 _ rfl
    obtain ⟨_, e1, n1, rfl, w1⟩ := h 1 _ rfl
    simp at e0 e1; subst e0; subst e1
    refine ⟨⟨n0, n1⟩, rfl, ?_⟩
    simp [Lit.wf, IntKind.min, IntKind.max, IntKind.signed, IntKind.bits] at w0 w1
    refine ⟨⟨?_, ?_⟩, ?_⟩ <;> simp only [u64m] <;> omega
end
theorem FoldBatch_ok {kind : Int} {a b : Option Addr} {n c m k : Nat} {l : List OpV} {rs : List RecV} {w : World} (hr : Reads w Enc.op3 (a, n, c) l) (hl : ∀ o ∈ l, o.Fits) (hn : l.length ≤ maxLen) (hb : l.length * 24 ≤ 140737488351232) (hd : (Lit.int .i64 kind).wf = true) (hi : Reads w Enc.rcd (b, m, k) rs) (hf : ∀ x ∈ rs, x.Fits) (hni : rs.length ≤ maxLen) (hbi : rs.length * 16 ≤ 140737488351232) :
    CallsW Tryz.prog 3 [.slice a n c, .int .i64 kind, .slice b m k] w (Rets fun v w' => v = .bool true ∧ Grew w w') := by
  refine sx3.ok ?_
  unfold sx3
  have hm : m = rs.length := hi.2.1
  subst hm
  refine awakeF_ok.use fun v w1 ⟨hv, hg1⟩ => ?_
  subst hv
  refine ⟨_, rfl, fun h => (by cases h), fun _ => ⟨fun _ => ⟨_, rfl, rfl, hg1⟩, fun hle => ?_⟩⟩
  simp only [decide_eq_false_iff_not] at hle
  refine (Batch_ok (kind := kind) (hr.grew hg1) hl (hi.grew hg1) hf (by omega)).use fun u w5 ⟨a7, l7, c7, hv, ho5, hg5⟩ => ?_
  subst hv
  have hg5' := hg1.trans hg5
  refine ⟨_, _, _, _, _, rfl, (RBatch_ok (kind := kind) (hr.grew hg5') hl (hi.grew hg5') hf (by omega)).use fun u w11 ⟨a13, l13, c13, hv, ho11, hg11, hl13⟩ => ?_⟩
  subst hv
  have hlen := ho11.len
  refine ⟨_, _, _, _, _, rfl, (same_ok (ho5.grew hg11).reads ho11.reads (by omega)).use fun u w17 ⟨hv, hg17⟩ => ?_⟩
  subst hv
  exact ⟨_, rfl, fun _ => ⟨fun _ => ⟨_, rfl, by simp, hg5'.trans (hg11.trans hg17)⟩, fun h => (by simp at h)⟩, fun h => (by simp at h)⟩

open Go.ChangeShapes Go.WideShapes Go.ChangeAt Go.RowKit
set_option maxRecDepth 100000 in
theorem foldBatch_lifted (os : Os) (started : os.Started) (H : Type) (enc : TypeId × Value → H) :
    ReturnsInHanded {} Tryz.checked os 3 .any (Rows.foldBatchSpec.pre6 enc Tryz.prog Tryz.f3 Rows.foldBatchRow.domain false) (Rows.foldBatchSpec.post enc Tryz.prog Tryz.f3 false true false false) := by
  refine returnsInHanded_of_change_sized (C := Tryz.checked) (by kernel_rfl) started (by kernel_rfl) Tryz.func3
    (ChangeSpec.witness6 (enc := enc) (C := Tryz.checked) false ⟨#[], #[.slice none 0 0, .int .i64 0, .slice none 0 0], []⟩ 8 (by kernel_rfl) (by kernel_rfl) (by kernel_rfl) (by kernel_rfl)) ?_
  intro W base args ds gs before hval0 hW hcnd hsz0 _
  have hval : ∀ (j : Nat) t v, Tryz.f3.params[j]? = some t → args[j]? = some v → Value.okWide Tryz.prog W .any base t v := hval0
  have hW' := hW
  obtain ⟨p, q, hA0, hV, rfl, hfz, hnd⟩ := hW
  have hA : DataW.TrodAll enc Tryz.prog W 0 (fun _ => true) true Tryz.f3.params.toList args.toList ds p := hA0
  have hsz : (DataW.weightsEach Tryz.prog (Tryz.f3.params.toList ++ _) (ds ++ gs)).all (· ≤ reachBytes) = true := hsz0
  rw [show Tryz.f3.params = #[22, 3, 23] from by kernel_rfl] at hA hval hsz
  have hA1 := hA
  obtain ⟨v0, vs0, d0, ds0, p0, q0, hargs, rfl, rfl, h0, r0⟩ := trodAll_cons hA
  obtain ⟨v1, vs1, d1, ds1, p1, q1, rfl, rfl, rfl, h1, r1⟩ := trodAll_cons r0
  obtain ⟨v2, vs2, d2, ds2, p2, q2, rfl, rfl, rfl, h2, r2⟩ := trodAll_cons r1
  obtain ⟨rfl, rfl, rfl⟩ := trodAll_nil r2
  obtain rfl : args = #[v0, v1, v2] := by cases args; simp_all
  obtain ⟨a0, n0, c0, l0, rfl, hr0, hcl0, hn0, hb0⟩ := open_sub (P := Tryz.prog) (t := 22) (e := 33) (arg_sub (e := 33) (j := 0) hsz rfl rfl (by kernel_rfl) (hval 0 22 v0 rfl rfl) h0) (by kernel_rfl) op3_kinds (by kernel_rfl) (B := 24) (by kernel_rfl) (E := Enc.op3) rfl op3_of
  obtain ⟨x1, rfl, hcl1⟩ := Go.Sx.open_int (P := Tryz.prog) (k := .i64) (t := 3) (by kernel_rfl) (hval 1 3 v1 rfl rfl) h1
  obtain ⟨a2, n2, c2, l2, rfl, hr2, hcl2, hn2, hb2⟩ := open_sub (P := Tryz.prog) (t := 23) (e := 36) (arg_sub (e := 36) (j := 2) hsz rfl rfl (by kernel_rfl) (hval 2 23 v2 rfl rfl) h2) (by kernel_rfl) rec_kinds (by kernel_rfl) (B := 16) (by kernel_rfl) (E := Enc.rcd) rfl rec_of
  clear hA0 hA1 hval0 hsz0
  refine (CallsW.calls ⟨_, Tryz.func3, by kernel_rfl, by kernel_rfl⟩ (FoldBatch_ok hr0 hcl0 hn0 hb0 hcl1 hr2 hcl2 hn2 hb2)).mono fun e W' ⟨w', hh, hk, v, he, hv, hg⟩ => ?_
  subst he; subst hv
  exact ⟨_, rfl, post_true (tb := 4) (by kernel_rfl) rfl (by kernel_rfl) (by kernel_rfl) ⟨rfl, rfl, rfl⟩ (by decide +kernel) hW' (below_of hg hh hk)⟩

theorem foldBatch_holds : Rows.FoldBatchSaid :=
  OpenClaim.holds_of_wide 3 Tryz.f3 rfl rfl rfl rfl rfl rfl rfl ⟨rfl, rfl, rfl, rfl, rfl⟩ rfl rfl rfl rfl rfl (by kernel_rfl) Tryz.func3 (by kernel_rfl)
    (of_decide_eq_true (by kernel_rfl)) (by unfold Func.isWrapper; first | (rw [if_pos (by decide +kernel)]; kernel_rfl) | (rw [if_neg (by decide +kernel)]; exact ⟨rfl, rfl⟩))
    (fun os started H enc _ => foldBatch_lifted os started H enc)
end Go.Proofs.YtoljpkdokpinhaaGreat
