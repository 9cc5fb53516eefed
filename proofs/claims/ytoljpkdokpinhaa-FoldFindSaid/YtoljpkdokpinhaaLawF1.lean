/- FoldFind: what it computes, and its row. Conditions: none. -/
import Derived.Test.YtoljpkdokpinhaaProg
import Derived.Test.YtoljpkdokpinhaaFoldR
import Derived.Test.YtoljpkdokpinhaaSxX
import Derived.Test.YtoljpkdokpinhaaRows
namespace Go.Proofs.Ytoljpkdokpinhaa
open Go.Sx
set_option maxRecDepth 100000
set_option linter.unusedVariables false
set_option linter.unusedSimpArgs false
/- reprise/repriselaw05.FoldFind -/
def sx4 (table : Option Addr) (table_n table_c : Nat) (key : Int) (R : Ending → World → Prop) (w : World) : Prop :=
  CallsW Try.prog 10 [] w (RetR R fun u2 w1 => ∃ (b3 : Bool), u2 = .bool b3 ∧ (((!b3) = true → R (.returned (.bool false)) w1) ∧ ((!b3) = false → CallsW Try.prog 17 [.slice table table_n table_c] w1 (RetR R fun u6 w5 => ∃
    (a7 : Option Addr) (l7 c7 : Nat), u6 = .slice a7 l7 c7 ∧ CallsW Try.prog 18 [.slice table table_n table_c] w5 (RetR R fun u10 w9 => ∃ (a11 : Option Addr) (l11 c11 : Nat), u10 = .slice a11 l11 c11 ∧ CallsW Try.prog 16
    [.slice a7 l7 c7, .slice a11 l11 c11] w9 (RetR R fun u14 w13 => ∃ (b15 : Bool), u14 = .bool b15 ∧ (((!b15) = true → R (.returned (.bool false)) w13) ∧ ((!b15) = false → CallsW Try.prog 19 [.slice table table_n
    table_c, .int .u64 key] w13 (RetR R fun u18 w17 => ∃ (b19 : Bool) (n20 : Int), u18 = .agg #[.bool b19, .int .u64 n20] ∧ CallsW Try.prog 20 [.slice table table_n table_c, .int .u64 key] w17 (RetR R fun u23 w22 => ∃
    (b24 : Bool) (n25 : Int), u23 = .agg #[.bool b24, .int .u64 n25] ∧ ∃ (b27 : Bool), PureTo Try.prog (eqS .neq 35 (.tmp 19) (.tmp 22) (.agg #[.bool b19, .int .u64 n20]) (.agg #[.bool b24, .int .u64 n25])) (.bool b27) ∧
    ((b27 = true → R (.returned (.bool false)) w22) ∧ (b27 = false → ∃ (I28 : Int → World → Prop) (m28 : Int → World → Nat), I28 0 w22 ∧ ∀ (n29 : Int) (w30 : World), I28 n29 w30 → (((decide (n29 < ((table_n : Nat) :
    Int))) = true → (((decide (n29 < 256)) = true → ∀ w31, Grew w30 w31 → withSome table (fun d32 => (0 ≤ n29 ∧ n29 < (table_n : Nat)) ∧ ∃ (n33 : Int), w31.cell? (Addr.add d32 (n29.toNat * 3)) = some (.int .u64 n33) ∧
    withSome table (fun d34 => (0 ≤ n29 ∧ n29 < (table_n : Nat)) ∧ ∃ (n35 : Int), w31.cell? (Addr.add d34 (n29.toNat * 3)) = some (.int .u64 n35) ∧ CallsW Try.prog 19 [.slice table table_n table_c, .int .u64 n33] w31
    (RetR R fun u37 w36 => ∃ (b38 : Bool) (n39 : Int), u37 = .agg #[.bool b38, .int .u64 n39] ∧ SameB w31 w36 [(Addr.add d34 (n29.toNat * 3)), (Addr.add d32 (n29.toNat * 3))] ∧ CallsW Try.prog 20 [.slice table table_n
    table_c, .int .u64 n35] w36 (RetR R fun u42 w41 => ∃ (b43 : Bool) (n44 : Int), u42 = .agg #[.bool b43, .int .u64 n44] ∧ ∃ (b46 : Bool), PureTo Try.prog (eqS .neq 35 (.tmp 41) (.tmp 48) (.agg #[.bool b38, .int .u64
    n39]) (.agg #[.bool b43, .int .u64 n44])) (.bool b46) ∧ ((b46 = true → R (.returned (.bool false)) w41) ∧ (b46 = false → (I28 (IntKind.i64.wrap (n29 + 1)) w41 ∧ m28 (IntKind.i64.wrap (n29 + 1)) w41 < m28 n29
    w30)))))))) ∧ ((decide (n29 < 256)) = false → R (.returned (.bool true)) w30))) ∧ ((decide (n29 < ((table_n : Nat) : Int))) = false → R (.returned (.bool true)) w30))))))))))))))
theorem sx4.ok {table : Option Addr} {table_n table_c : Nat} {key : Int} {R : Ending → World → Prop} {w : World} (h : sx4 table table_n table_c key R w) : CallsW Try.prog 4 [.slice table table_n table_c, .int .u64 key] w R :=
  callsW_of mix Try.func4 (by kernel_rfl) (by kernel_rfl) (Eq.mpr (by kernel_rfl : denFn Try.prog { pureTo := [23, 49], draws := [(6, { order := (.cons 0 (.cons 1 (.cons 2 (.cons 3 (.cons 4 (.cons 5 (.cons 7 (.cons 8 (.cons 9 (.cons 10 (.cons 11 (.cons 12 (.cons 6 (.cons 13 (.cons 14 .nil))))))))))))))), bars := [13] })], loops := [(4, { slots := [(5, .int .i64)], cells := [] })] } Try.f4 [.slice table table_n table_c, .int .u64 key] R w = sx4 table table_n table_c key R w) h)


theorem FoldFind_ok {a : Option Addr} {n c : Nat} {l : List PairV} {key : Int} {w : World} (hr : Reads w Enc.pair (a, n, c) l) (hf : ∀ x ∈ l, x.Fits) (hl : l.length ≤ maxLen) (hb : l.length * 24 ≤ 140737488351232) (hk : (Lit.int .u64 key).wf = true) :
    CallsW Try.prog 4 [.slice a n c, .int .u64 key] w (Rets fun v w' => v = .bool true ∧ Grew w w') := by
  refine sx4.ok ?_
  unfold sx4
  have hn : n = l.length := hr.2.1
  subst hn
  have hl' := hl
  simp only [maxLen] at hl'
  refine awakeF_ok.use fun v w1 ⟨hv, hg1⟩ => ?_
  subst hv
  refine ⟨_, rfl, fun h => (by cases h), fun _ => (FKeys_ok (hr.grew hg1) hl (by omega)).use fun u w5 ⟨a7, l7, c7, hv, ho5, hg5⟩ => ?_⟩
  subst hv
  have hg5' := hg1.trans hg5
  refine ⟨_, _, _, rfl, (RFKeys_ok (hr.grew hg5') hl (by omega)).use fun u w9 ⟨a11, l11, c11, hv, ho9, hg9⟩ => ?_⟩
  subst hv
  have hg9' := hg5'.trans hg9
  refine ⟨_, _, _, rfl, (lkeys_ok (ho5.grew hg9).reads ho9.reads (by simp; omega)).use fun u w13 ⟨hv, hg13⟩ => ?_⟩
  subst hv
  have hg13' := hg9'.trans hg13
  refine ⟨_, rfl, fun h => (by cases h), fun _ => (Find_ok (hr.grew hg13') hl).use fun u w17 ⟨hv, hg17⟩ => ?_⟩
  subst hv
  have hg17' := hg13'.trans hg17
  refine ⟨_, _, rfl, (RFind_ok (hr.grew hg17') hl).use fun u w22 ⟨hv, hg22⟩ => ?_⟩
  subst hv
  have hg22' := hg17'.trans hg22
  refine ⟨_, _, rfl, _, val_neq, fun h => (by simp at h), fun _ => ?_⟩
  refine ⟨fun i w' => ∃ k : Nat, i = k ∧ k ≤ l.length ∧ Grew w w', fun i _ => l.length - i.toNat, ⟨0, rfl, Nat.zero_le _, hg22'⟩, ?_⟩
  rintro i w30 ⟨k, rfl, hkl, hg30⟩
  refine ⟨fun hlt => ⟨fun _ w31 hg31 => ?_, fun _ => ⟨_, rfl, rfl, hg30⟩⟩, fun _ => ⟨_, rfl, rfl, hg30⟩⟩
  simp only [decide_eq_true_eq] at hlt
  have hg31' := hg30.trans hg31
  obtain ⟨d, x, rfl, hx, hc⟩ := (hr.grew hg31').at0 (k := k) (by omega)
  obtain ⟨-, c2⟩ := pair_cells hc
  have hw : IntKind.i64.wrap ((k : Int) + 1) = ((k + 1 : Nat) : Int) := by rw [IntKind.wrap_i64]; omega
  have hblk := cell_blockF c2
  rw [hw]
  refine ⟨⟨by omega, by omega⟩, _, c2, ⟨by omega, by omega⟩, _, c2, (Find_ok (hr.grew hg31') hl).use fun u w36 ⟨hv, hg36⟩ => ?_⟩
  subst hv
  refine ⟨_, _, rfl, ⟨hg36.block _ hblk, hg36.block _ hblk, trivial⟩, (RFind_ok (hr.grew (hg31'.trans hg36)) hl).use fun u w41 ⟨hv, hg41⟩ => ?_⟩
  subst hv
  exact ⟨_, _, rfl, _, val_neq, fun h => (by simp at h), fun _ => ⟨⟨k + 1, rfl, by omega, hg31'.trans (hg36.trans hg41)⟩, by show l.length - (((k + 1 : Nat) : Int)).toNat < l.length - ((k : Int)).toNat; omega⟩⟩

open Go.ChangeShapes Go.WideShapes Go.ChangeAt Go.RowKit
set_option maxRecDepth 100000 in
theorem foldFind_lifted (os : Os) (started : os.Started) (H : Type) (enc : TypeId × Value → H) :
    ReturnsInHanded {} Try.checked os 4 .any (Rows.foldFindSpec.pre6 enc Try.prog Try.f4 Rows.foldFindRow.domain false) (Rows.foldFindSpec.post enc Try.prog Try.f4 false true false false) := by
  refine returnsInHanded_of_change_sized (C := Try.checked) (by kernel_rfl) started (by kernel_rfl) Try.func4
    (ChangeSpec.witness6 (enc := enc) (C := Try.checked) false ⟨#[], #[.slice none 0 0, .int .u64 0], []⟩ 8 (by kernel_rfl) (by kernel_rfl) (by kernel_rfl) (by kernel_rfl)) ?_
  intro W base args ds gs before hval0 hW hcnd hsz0 _
  have hval : ∀ (j : Nat) t v, Try.f4.params[j]? = some t → args[j]? = some v → Value.okWide Try.prog W .any base t v := hval0
  have hW' := hW
  obtain ⟨p, q, hA0, hV, rfl, hfz, hnd⟩ := hW
  have hA : DataW.TrodAll enc Try.prog W 0 (fun _ => true) true Try.f4.params.toList args.toList ds p := hA0
  have hsz : (DataW.weightsEach Try.prog (Try.f4.params.toList ++ _) (ds ++ gs)).all (· ≤ reachBytes) = true := hsz0
  rw [show Try.f4.params = #[22, 30] from by kernel_rfl] at hA hval hsz
  have hA1 := hA
  obtain ⟨v0, vs0, d0, ds0, p0, q0, hargs, rfl, rfl, h0, r0⟩ := trodAll_cons hA
  obtain ⟨v1, vs1, d1, ds1, p1, q1, rfl, rfl, rfl, h1, r1⟩ := trodAll_cons r0
  obtain ⟨rfl, rfl, rfl⟩ := trodAll_nil r1
  obtain rfl : args = #[v0, v1] := by cases args; simp_all
  obtain ⟨a0, n0, c0, l0, rfl, hr0, hcl0, hn0, hb0⟩ := open_sub (P := Try.prog) (t := 22) (e := 38) (arg_sub (e := 38) (j := 0) hsz rfl rfl (by kernel_rfl) (hval 0 22 v0 rfl rfl) h0) (by kernel_rfl) pair_kinds (by kernel_rfl) (B := 24) (by kernel_rfl) (E := Enc.pair) rfl pair_of
  obtain ⟨x1, rfl, hcl1⟩ := Go.Sx.open_int (P := Try.prog) (k := .u64) (t := 30) (by kernel_rfl) (hval 1 30 v1 rfl rfl) h1
  clear hA0 hA1 hval0 hsz0
  refine (CallsW.calls ⟨_, Try.func4, by kernel_rfl, by kernel_rfl⟩ (FoldFind_ok hr0 hcl0 hn0 hb0 hcl1)).mono fun e W' ⟨w', hh, hk, v, he, hv, hg⟩ => ?_
  subst he; subst hv
  exact ⟨_, rfl, post_true (tb := 4) (by kernel_rfl) rfl (by kernel_rfl) (by kernel_rfl) ⟨rfl, rfl, rfl⟩ (by decide +kernel) hW' (below_of hg hh hk)⟩

theorem foldFind_holds : Rows.FoldFindSaid :=
  OpenClaim.holds_of_wide 4 Try.f4 rfl rfl rfl rfl rfl rfl rfl ⟨rfl, rfl, rfl, rfl, rfl⟩ rfl rfl rfl rfl rfl (by kernel_rfl) Try.func4 (by kernel_rfl)
    (of_decide_eq_true (by kernel_rfl)) (by unfold Func.isWrapper; first | (rw [if_pos (by decide +kernel)]; kernel_rfl) | (rw [if_neg (by decide +kernel)]; exact ⟨rfl, rfl⟩))
    (fun os started H enc _ => foldFind_lifted os started H enc)
end Go.Proofs.Ytoljpkdokpinhaa
