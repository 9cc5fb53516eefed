/- FoldAdd: what it computes, and its row. Conditions: none. -/
import Derived.Test.YtoljpkdokpinhaaProg
import Derived.Test.YtoljpkdokpinhaaFoldS
import Derived.Test.YtoljpkdokpinhaaSxX
import Derived.Test.YtoljpkdokpinhaaSxQ
import Derived.Test.YtoljpkdokpinhaaSxT
import Derived.Deep.CondSized
import Derived.Test.YtoljpkdokpinhaaRows
namespace Go.Proofs.Ytoljpkdokpinhaa
open Go.Sx
set_option maxRecDepth 100000
set_option linter.unusedVariables false
set_option linter.unusedSimpArgs false
/- reprise/repriselaw05.FoldAdd -/
def sx3 (kind : Int) (a : Option Addr) (a_n a_c : Nat) (b : Option Addr) (b_n b_c : Nat) (R : Ending → World → Prop) (w : World) : Prop :=
  CallsW Try.prog 10 [] w (RetR R fun u2 w1 => ∃ (b3 : Bool), u2 = .bool b3 ∧ (((!b3) = true → R (.returned (.bool false)) w1) ∧ ((!b3) = false → CallsW Try.prog 11 [.slice a a_n a_c] w1 (RetR R fun u6 w5 => ∃ (b7 : Bool),
    u6 = .bool b7 ∧ CallsW Try.prog 12 [.slice a a_n a_c] w5 (RetR R fun u10 w9 => ∃ (b11 : Bool), u10 = .bool b11 ∧ (((!(b7 == b11)) = true → R (.returned (.bool false)) w9) ∧ ((!(b7 == b11)) = false → CallsW Try.prog 11
    [.slice b b_n b_c] w9 (RetR R fun u14 w13 => ∃ (b15 : Bool), u14 = .bool b15 ∧ CallsW Try.prog 12 [.slice b b_n b_c] w13 (RetR R fun u18 w17 => ∃ (b19 : Bool), u18 = .bool b19 ∧ (((!(b15 == b19)) = true → R (.returned
    (.bool false)) w17) ∧ ((!(b15 == b19)) = false → CallsW Try.prog 13 [.int .i64 kind, .slice a a_n a_c, .slice b b_n b_c] w17 (RetR R fun u22 w21 => ∃ (a23 : Option Addr) (l23 c23 : Nat) (n24 : Int), u22 = .tuple
    #[.slice a23 l23 c23, .int .i64 n24] ∧ CallsW Try.prog 14 [.int .i64 kind, .slice a a_n a_c, .slice b b_n b_c] w21 (RetR R fun u27 w26 => ∃ (a28 : Option Addr) (l28 c28 : Nat) (n29 : Int), u27 = .tuple #[.slice a28
    l28 c28, .int .i64 n29] ∧ CallsW Try.prog 15 [.slice a23 l23 c23, .slice a28 l28 c28] w26 (RetR R fun u32 w31 => ∃ (b33 : Bool), u32 = .bool b33 ∧ ((b33 = true → R (.returned (.bool (n24 == n29))) w31) ∧ (b33 = false
    → R (.returned (.bool false)) w31))))))))))))))))
theorem sx3.ok {kind : Int} {a : Option Addr} {a_n a_c : Nat} {b : Option Addr} {b_n b_c : Nat} {R : Ending → World → Prop} {w : World} (h : sx3 kind a a_n a_c b b_n b_c R w) : CallsW Try.prog 3 [.int .i64 kind, .slice a a_n a_c, .slice b b_n b_c] w R :=
  callsW_of mix Try.func3 (by kernel_rfl) (by kernel_rfl) (Eq.mpr (by kernel_rfl : denFn Try.prog {} Try.f3 [.int .i64 kind, .slice a a_n a_c, .slice b b_n b_c] R w = sx3 kind a a_n a_c b b_n b_c R w) h)


theorem FoldAdd_ok {kind : Int} {a b : Option Addr} {n c m k : Nat} {l r : List PairV} {w : World} (hd : (Lit.int .i64 kind).wf = true) (hr : Reads w Enc.pair (a, n, c) l) (hl : ∀ x ∈ l, x.Fits) (hll : l.length ≤ 1048576) (hi : Reads w Enc.pair (b, m, k) r) (hf : ∀ x ∈ r, x.Fits) (hrl : r.length ≤ 1048576) :
    CallsW Try.prog 3 [.int .i64 kind, .slice a n c, .slice b m k] w (Rets fun v w' => v = .bool true ∧ Grew w w') := by
  refine sx3.ok ?_
  unfold sx3
  have ml : l.length ≤ maxLen := by simp only [maxLen]; omega
  have mr : r.length ≤ maxLen := by simp only [maxLen]; omega
  refine awakeF_ok.use fun v w1 ⟨hv, hg1⟩ => ?_
  subst hv
  refine ⟨_, rfl, fun h => (by cases h), fun _ => (Sound_ok (hr.grew hg1) ml).use fun u w5 ⟨hv, hg5⟩ => ?_⟩
  subst hv
  have hg5 := hg1.trans hg5
  refine ⟨_, rfl, (RSound_ok (hr.grew hg5) ml).use fun u w9 ⟨hv, hg9⟩ => ?_⟩
  subst hv
  have hg9 := hg5.trans hg9
  refine ⟨_, rfl, fun h => (by simp at h), fun _ => (Sound_ok (hi.grew hg9) mr).use fun u w13 ⟨hv, hg13⟩ => ?_⟩
  subst hv
  have hg13 := hg9.trans hg13
  refine ⟨_, rfl, (RSound_ok (hi.grew hg13) mr).use fun u w17 ⟨hv, hg17⟩ => ?_⟩
  subst hv
  have hg17 := hg13.trans hg17
  refine ⟨_, rfl, fun h => (by simp at h), fun _ => (Add_ok (kind := kind) (hr.grew hg17) hl ml (hi.grew hg17) hf mr (by omega)).use fun u w21 ⟨a23, l23, c23, hv, ho21, hg21⟩ => ?_⟩
  subst hv
  have hg21' := hg17.trans hg21
  refine ⟨_, _, _, _, rfl, (RAdd_ok (kind := kind) (hr.grew hg21') hl ml (hi.grew hg21') hf mr (by omega)).use fun u w26 ⟨a28, l28, c28, hv, ho26, hg26⟩ => ?_⟩
  subst hv
  have hg26' := hg21'.trans hg26
  refine ⟨_, _, _, _, rfl, ?_⟩
  have hsame : (if knownB kind ∧ soundB l ∧ soundB r then tableT (addT kind [] (l ++ r)) else []) = (if knownB kind ∧ soundB l ∧ soundB r then mergeL kind l r else []) := by
    by_cases h : knownB kind ∧ soundB l ∧ soundB r
    · rw [if_pos h, if_pos h]
      exact add_same (soundB_take h.2.1).2 (soundB_take h.2.2).2
    · rw [if_neg h, if_neg h]
  have hlen : (if knownB kind ∧ soundB l ∧ soundB r then mergeL kind l r else []).length ≤ l.length + r.length := by
    by_cases h : knownB kind ∧ soundB l ∧ soundB r
    · rw [if_pos h]
      exact (mergeL_spec kind _ l r (Nat.le_refl _) (soundB_take h.2.1).2 (soundB_take h.2.2).2).2.2.1
    · rw [if_neg h]; simp
  rw [hsame] at ho21
  refine (same_ok (ho21.grew hg26).reads ho26.reads (by omega)).use fun u w31 ⟨hv, hg31⟩ => ?_
  subst hv
  exact ⟨_, rfl, fun _ => ⟨_, rfl, by simp, hg26'.trans hg31⟩, fun h => (by simp at h)⟩

theorem pair_kindsF : kindsOf Try.prog 3 38 = some [.int .u64, .bool, .int .u64] := by kernel_rfl
theorem pair_ofF (cs : List Value) (h : AllK [.int .u64, .bool, .int .u64] cs) : ∃ x : PairV, cs = Enc.pair.f x ∧ x.Fits := by
  obtain ⟨hl, h⟩ := h
  match cs, hl with
  | [c0, c1, c2], _ =>
    obtain ⟨_, e0, n0, rfl, w0⟩ := h 0 _ rfl
    obtain ⟨_, e1, n1, rfl⟩ := h 1 _ rfl
    obtain ⟨_, e2, n2, rfl, w2⟩ := h 2 _ rfl
    simp at e0 e1 e2; subst e0; subst e1; subst e2
    refine ⟨⟨n0, n1, n2⟩, rfl, ?_⟩
    simp [Lit.wf, IntKind.min, IntKind.max, IntKind.signed, IntKind.bits] at w0 w2
    refine ⟨⟨?_, ?_⟩, ⟨?_, ?_⟩⟩ <;> simp only [u64m] <;> omega

section
variable {H : Type}
theorem upto_pos (d : DataW H) : 1 ≤ Rows.uptoBulk d := by
  cases d with
  | lit l => cases l <;> simp [Rows.uptoBulk]
  | _ => simp [Rows.uptoBulk]
theorem upto_all_len : ∀ ds : List (DataW H), ds.length ≤ Rows.uptoBulkAll ds
  | [] => by simp [Rows.uptoBulkAll]
  | d :: r => by
    have h1 := upto_pos d; have h2 := upto_all_len r
    simp only [Rows.uptoBulkAll, List.length_cons]; omega
theorem upto_mem : ∀ {ds : List (DataW H)} {j : Nat} {d : DataW H}, ds[j]? = some d → Rows.uptoBulk d ≤ Rows.uptoBulkAll ds
  | [], j, d, h => by simp at h
  | x :: r, 0, d, h => by simp at h; subst h; simp only [Rows.uptoBulkAll]; omega
  | x :: r, j + 1, d, h => by
    have := upto_mem (ds := r) (j := j) (d := d) (by simpa using h)
    simp only [Rows.uptoBulkAll]; omega
theorem upto_len {ds : List (DataW H)} {B : Nat} (h : Rows.uptoBulkAll ds ≤ B) {j : Nat} {d : DataW H} {n : Nat} (hd : ds[j]? = some d) (hs : (d = .nil ∧ n = 0) ∨ ∃ es sp, d = .slice es sp ∧ es.length = n) : n ≤ B := by
  have h1 := upto_mem hd
  rcases hs with ⟨-, rfl⟩ | ⟨es, sp, rfl, rfl⟩
  · omega
  · have h2 := upto_all_len es
    simp only [Rows.uptoBulk] at h1; omega
end
open Go.ChangeShapes Go.WideShapes Go.ChangeAt Go.RowKit
set_option maxRecDepth 100000 in
theorem foldAdd_lifted (os : Os) (started : os.Started) (H : Type) (enc : TypeId × Value → H) (F : Stop.Interp) :
    ReturnsInHanded {} Try.checked os 3 .any ((Rows.OpenSpec.upto Rows.foldAddSpec).pre6 enc Try.prog Try.f3 Rows.foldAddUptoRow.domain false) (((Rows.OpenSpec.upto Rows.foldAddSpec).at F).post enc Try.prog Try.f3 false true false false) := by
  refine returnsInHanded_of_cond_sized (s := Rows.OpenSpec.upto Rows.foldAddSpec) (k := Rows.uptoSmall) (by rfl) (C := Try.checked) (by kernel_rfl) started (by kernel_rfl) Try.func3
    (OpenSpec.witness (s := Rows.OpenSpec.upto Rows.foldAddSpec) (k := Rows.uptoSmall) (by rfl) (enc := enc) (C := Try.checked) (x := ([.lit (.int .i64 0), .nil, .nil], [], [])) false ⟨#[], #[.int .i64 0, .slice none 0 0, .slice none 0 0], []⟩ 8 (by kernel_rfl) (by kernel_rfl) (by kernel_rfl) (by kernel_rfl) (by kernel_rfl) (by kernel_rfl)) ?_
  intro W base args ds gs before hval0 hW hcnd hsm0 hsz0 _
  have hval : ∀ (j : Nat) t v, Try.f3.params[j]? = some t → args[j]? = some v → Value.okWide Try.prog W .any base t v := hval0
  have hW' := hW
  obtain ⟨p, q, hA0, hV, rfl, hfz, hnd⟩ := hW
  have hA : DataW.TrodAll enc Try.prog W 0 (fun _ => true) true Try.f3.params.toList args.toList ds p := hA0
  have hsz : (DataW.weightsEach Try.prog (Try.f3.params.toList ++ _) (ds ++ gs)).all (· ≤ reachBytes) = true := hsz0
  rw [show Try.f3.params = #[3, 22, 22] from by kernel_rfl] at hA hval hsz
  have hA1 := hA
  obtain ⟨v0, vs0, d0, ds0, p0, q0, hargs, rfl, rfl, h0, r0⟩ := trodAll_cons hA
  obtain ⟨v1, vs1, d1, ds1, p1, q1, rfl, rfl, rfl, h1, r1⟩ := trodAll_cons r0
  obtain ⟨v2, vs2, d2, ds2, p2, q2, rfl, rfl, rfl, h2, r2⟩ := trodAll_cons r1
  obtain ⟨rfl, rfl, rfl⟩ := trodAll_nil r2
  obtain rfl : args = #[v0, v1, v2] := by cases args; simp_all
  obtain ⟨x0, rfl, hcl0⟩ := Go.Sx.open_int (P := Try.prog) (k := .i64) (t := 3) (by kernel_rfl) (hval 0 3 v0 rfl rfl) h0
  obtain ⟨a1, n1, c1, l1, rfl, hr1, hcl1, hn1, hs1⟩ := open_flat (P := Try.prog) (t := 22) (e := 38) (by kernel_rfl) pair_kindsF (by kernel_rfl) (hval 1 22 v1 rfl rfl) h1 (E := Enc.pair) rfl pair_ofF
  have hb1 : l1.length * 24 ≤ 140737488351232 := by have h1 := sized_len hsz (j := 1) (t := 22) (e := 38) rfl rfl (by kernel_rfl) (B := 24) (by kernel_rfl) hs1; have h2 := hr1.2.1; simp only at h2; omega
  obtain ⟨a2, n2, c2, l2, rfl, hr2, hcl2, hn2, hs2⟩ := open_flat (P := Try.prog) (t := 22) (e := 38) (by kernel_rfl) pair_kindsF (by kernel_rfl) (hval 2 22 v2 rfl rfl) h2 (E := Enc.pair) rfl pair_ofF
  have hb2 : l2.length * 24 ≤ 140737488351232 := by have h1 := sized_len hsz (j := 2) (t := 22) (e := 38) rfl rfl (by kernel_rfl) (B := 24) (by kernel_rfl) hs2; have h2 := hr2.2.1; simp only at h2; omega
  have hsm : Rows.uptoBulkAll _ ≤ 1048576 := of_decide_eq_true hsm0
  have hbk1 : l1.length ≤ 1048576 := by have h2 := hr1.2.1; simp only at h2; have h3 := upto_len hsm (j := 1) rfl hs1; omega
  have hbk2 : l2.length ≤ 1048576 := by have h2 := hr2.2.1; simp only at h2; have h3 := upto_len hsm (j := 2) rfl hs2; omega
  clear hA0 hA1 hval0 hsz0
  refine (CallsW.calls ⟨_, Try.func3, by kernel_rfl, by kernel_rfl⟩ (FoldAdd_ok hcl0 hr1 hcl1 hbk1 hr2 hcl2 hbk2)).mono fun e W' ⟨w', hh, hk, v, he, hv, hg⟩ => ?_
  subst he; subst hv
  exact ⟨_, rfl, post_true (tb := 4) (by kernel_rfl) rfl (by kernel_rfl) (by kernel_rfl) ⟨rfl, rfl, rfl⟩ (by decide +kernel) hW' (below_of hg hh hk)⟩

theorem foldAdd_holds : Rows.FoldAddUptoSaid :=
  OpenClaim.holds_of_cond 3 Try.f3 rfl rfl rfl rfl rfl rfl rfl ⟨rfl, rfl, rfl, rfl, rfl⟩ rfl rfl rfl rfl rfl (by kernel_rfl) Try.func3 (by kernel_rfl)
    (of_decide_eq_true (by kernel_rfl)) (by unfold Func.isWrapper; first | (rw [if_pos (by decide +kernel)]; kernel_rfl) | (rw [if_neg (by decide +kernel)]; exact ⟨rfl, rfl⟩))
    (fun os started H enc _ F => foldAdd_lifted os started H enc F)
end Go.Proofs.Ytoljpkdokpinhaa
