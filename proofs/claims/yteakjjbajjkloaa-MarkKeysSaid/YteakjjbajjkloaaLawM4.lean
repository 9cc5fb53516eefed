/- MarkKeys: what it computes, and its row. Conditions: none. -/
import Derived.Test.YteakjjbajjkloaaProg
import Derived.Test.YteakjjbajjkloaaMarkA
import Derived.Test.YteakjjbajjkloaaRows
namespace Go.Proofs.Yteakjjbajjkloaa
open Go.Sx
set_option maxRecDepth 100000
set_option linter.unusedVariables false
set_option linter.unusedSimpArgs false
/- reprise/repriselaw12.MarkKeys -/
def sx6 (a : Option Addr) (a_n a_c : Nat) (b : Option Addr) (b_n b_c : Nat) (key : Int) (R : Ending → World → Prop) (w : World) : Prop :=
  CallsW Try.prog 11 [] w (RetR R fun u2 w1 => ∃ (b3 : Bool), u2 = .bool b3 ∧ (((!b3) = true → R (.returned (.bool false)) w1) ∧ ((!b3) = false → (((decide (((a_n : Nat) : Int) > 4096)) = true → R (.returned (.bool true))
    w1) ∧ ((decide (((a_n : Nat) : Int) > 4096)) = false → (((decide (((b_n : Nat) : Int) > 4096)) = true → R (.returned (.bool true)) w1) ∧ ((decide (((b_n : Nat) : Int) > 4096)) = false → ∀ w5, Grew w1 w5 → ∀ w6, Grew
    w5 w6 → CallsW Try.prog 24 [.slice a a_n a_c, .slice b b_n b_c] w6 (Ret (fun u8 w7 => ∃ (a9 : Option Addr) (l9 c9 : Nat), u8 = .slice a9 l9 c9 ∧ SameB w6 w7 [] ∧ CallsW Try.prog 25 [.slice a a_n a_c, .slice b b_n b_c]
    w7 (Ret (fun u12 w11 => ∃ (a13 : Option Addr) (l13 c13 : Nat), u12 = .slice a13 l13 c13 ∧ SameB w7 w11 [] ∧ CallsW Try.prog 23 [.slice a9 l9 c9, .slice a13 l13 c13] w11 (Ret (fun u16 w15 => ∃ (b17 : Bool), u16 = .bool
    b17 ∧ SameB w11 w15 [] ∧ ((b17 = true → CallsW Try.prog 26 [.slice a a_n a_c] w15 (Ret (fun u20 w19 => ∃ (b21 : Bool), u20 = .bool b21 ∧ SameB w15 w19 [] ∧ CallsW Try.prog 27 [.slice a a_n a_c] w19 (Ret (fun u24 w23
    => ∃ (b25 : Bool), u24 = .bool b25 ∧ SameB w19 w23 [] ∧ (((b21 == b25) = true → CallsW Try.prog 28 [.agg #[.int .i64 0, .int .i64 0, .slice a a_n a_c], .int .u64 key] w23 (Ret (fun u28 w27 => ∃ (b29 : Bool), u28 =
    .bool b29 ∧ SameB w23 w27 [] ∧ CallsW Try.prog 29 [.agg #[.int .i64 0, .int .i64 0, .slice a a_n a_c], .int .u64 key] w27 (Ret (fun u32 w31 => ∃ (b33 : Bool), u32 = .bool b33 ∧ SameB w27 w31 [] ∧ R (.returned (.bool
    (b29 == b33))) w31) (fun c34 w31 => False))) (fun c30 w27 => False))) ∧ ((b21 == b25) = false → R (.returned (.bool false)) w23))) (fun c26 w23 => False))) (fun c22 w19 => False))) ∧ (b17 = false → R (.returned (.bool
    false)) w15))) (fun c18 w15 => False))) (fun c14 w11 => False))) (fun c10 w7 => False)))))))))
theorem sx6.ok {a : Option Addr} {a_n a_c : Nat} {b : Option Addr} {b_n b_c : Nat} {key : Int} {R : Ending → World → Prop} {w : World} (h : sx6 a a_n a_c b b_n b_c key R w) : CallsW Try.prog 6 [.slice a a_n a_c, .slice b b_n b_c, .int .u64 key] w R :=
  callsW_of mix Try.func6 (by kernel_rfl) (by kernel_rfl) (Eq.mpr (by kernel_rfl : denFn Try.prog { locals := [7], draws := [(6, { order := (.cons 0 (.cons 1 (.cons 3 (.cons 4 (.cons 2 (.cons 5 (.cons 6 (.cons 7 (.cons 8 (.cons 10 (.cons 9 (.cons 11 (.cons 12 (.cons 13 (.cons 14 (.cons 15 (.cons 16 (.cons 18 (.cons 19 (.cons 17 (.cons 20 (.cons 21 (.cons 22 (.cons 23 .nil)))))))))))))))))))))))), bars := [] })] } Try.f6 [.slice a a_n a_c, .slice b b_n b_c, .int .u64 key] R w = sx6 a a_n a_c b b_n b_c key R w) h)


def encU64 : Enc Int := Enc.int .u64
theorem MarkKeys_ok {a b : Option Addr} {n c m d : Nat} {l r : List Int} {key : Int} {w : World} (hl : Reads w (Enc.int .u64) (a, n, c) l) (hkl : ∀ x ∈ l, 0 ≤ x ∧ x < u64m) (hnl : l.length ≤ maxLen) (hbl : l.length * 8 ≤ 140737488351232)
    (hr : Reads w (Enc.int .u64) (b, m, d) r) (hkr : ∀ x ∈ r, 0 ≤ x ∧ x < u64m) (hnr : r.length ≤ maxLen) (hbr : r.length * 8 ≤ 140737488351232) (hk : (Lit.int .u64 key).wf = true) :
    CallsW Try.prog 6 [.slice a n c, .slice b m d, .int .u64 key] w (Rets fun v w' => v = .bool true ∧ Grew w w') := by
  refine sx6.ok ?_
  unfold sx6
  refine awakeM_ok.use fun v w1 ⟨hv, hg1⟩ => ?_
  subst hv
  have hn : n = l.length := hl.2.1
  have hm : m = r.length := hr.2.1
  refine ⟨_, rfl, fun h => (by cases h), fun _ => ⟨fun _ => ⟨_, rfl, rfl, hg1⟩, fun h1 => ⟨fun _ => ⟨_, rfl, rfl, hg1⟩, fun h2 w5 hg5 w6 hg6 => ?_⟩⟩⟩
  have h1' : l.length ≤ 4096 := by simp only [decide_eq_false_iff_not] at h1; omega
  have h2' : r.length ≤ 4096 := by simp only [decide_eq_false_iff_not] at h2; omega
  have hg6' := hg1.trans (hg5.trans hg6)
  refine (Union_ok (hl.grew hg6') (hr.grew hg6') (by omega)).use' fun v w7 ⟨a9, l9, c9, hv, ho7, hg7⟩ => ?_
  subst hv
  have hg7' := hg6'.trans hg7
  refine ⟨_, _, _, rfl, trivial, (rUnion_ok (hl.grew hg7') (hr.grew hg7') (by omega)).use' fun v w11 ⟨a13, l13, c13, hv, ho11, hg11⟩ => ?_⟩
  subst hv
  have hg11' := hg7'.trans hg11
  have hul : (unionL (l ++ r)).length ≤ 9223372036854775806 := by
    have := dedupL_len (sortL (l ++ r))
    rw [sortL_len, List.length_append] at this
    unfold unionL; omega
  refine ⟨_, _, _, rfl, trivial, (keys_ok (ho7.grew hg11).reads ho11.reads hul).use' fun v w15 ⟨hv, hg15⟩ => ?_⟩
  subst hv
  have hg15' := hg11'.trans hg15
  refine ⟨_, rfl, trivial, fun _ => ?_, fun h => (by simp at h)⟩
  refine (KRising_ok (hl.grew hg15') (by omega)).use' fun v w19 ⟨hv, hw⟩ => ?_
  subst hv; subst hw
  refine ⟨_, rfl, trivial, (rKRising_ok (hl.grew hg15') (by omega)).use' fun v w23 ⟨hv, hg23⟩ => ?_⟩
  subst hv
  have hg23' := hg15'.trans hg23
  refine ⟨_, rfl, trivial, fun _ => ?_, fun h => (by simp at h)⟩
  refine (Has_ok (m := ⟨0, 0, l⟩) (key := key) (hl.grew hg23') (by simp only; omega)).use' fun v w27 ⟨hv, hg27⟩ => ?_
  subst hv
  have hg27' := hg23'.trans hg27
  refine ⟨_, rfl, trivial, (rHas_ok (m := ⟨0, 0, l⟩) (key := key) (hl.grew hg27') (by simp only; omega)).use' fun v w31 ⟨hv, hg31⟩ => ?_⟩
  subst hv
  exact ⟨_, rfl, trivial, _, rfl, by simp, hg27'.trans hg31⟩

open Go.ChangeShapes Go.WideShapes Go.ChangeAt Go.RowKit
set_option maxRecDepth 100000 in
theorem markKeys_lifted (os : Os) (started : os.Started) (H : Type) (enc : TypeId × Value → H) :
    ReturnsInHanded {} Try.checked os 6 .any (Rows.markKeysSpec.pre6 enc Try.prog Try.f6 Rows.markKeysRow.domain false) (Rows.markKeysSpec.post enc Try.prog Try.f6 false true false false) := by
  refine returnsInHanded_of_change_sized (C := Try.checked) (by kernel_rfl) started (by kernel_rfl) Try.func6
    (ChangeSpec.witness6 (enc := enc) (C := Try.checked) false ⟨#[], #[.slice none 0 0, .slice none 0 0, .int .u64 0], []⟩ 8 (by kernel_rfl) (by kernel_rfl) (by kernel_rfl) (by kernel_rfl)) ?_
  intro W base args ds gs before hval0 hW hcnd hsz0 _
  have hval : ∀ (j : Nat) t v, Try.f6.params[j]? = some t → args[j]? = some v → Value.okWide Try.prog W .any base t v := hval0
  have hW' := hW
  obtain ⟨p, q, hA0, hV, rfl, hfz, hnd⟩ := hW
  have hA : DataW.TrodAll enc Try.prog W 0 (fun _ => true) true Try.f6.params.toList args.toList ds p := hA0
  have hsz : (DataW.weightsEach Try.prog (Try.f6.params.toList ++ _) (ds ++ gs)).all (· ≤ reachBytes) = true := hsz0
  rw [show Try.f6.params = #[22, 22, 38] from by kernel_rfl] at hA hval hsz
  have hA1 := hA
  obtain ⟨v0, vs0, d0, ds0, p0, q0, hargs, rfl, rfl, h0, r0⟩ := trodAll_cons hA
  obtain ⟨v1, vs1, d1, ds1, p1, q1, rfl, rfl, rfl, h1, r1⟩ := trodAll_cons r0
  obtain ⟨v2, vs2, d2, ds2, p2, q2, rfl, rfl, rfl, h2, r2⟩ := trodAll_cons r1
  obtain ⟨rfl, rfl, rfl⟩ := trodAll_nil r2
  obtain rfl : args = #[v0, v1, v2] := by cases args; simp_all
  obtain ⟨a0, n0, c0, l0, rfl, hr0, hcl0, hn0, hb0⟩ := open_sub (P := Try.prog) (t := 22) (e := 38) (arg_sub (e := 38) (j := 0) hsz rfl rfl (by kernel_rfl) (hval 0 22 v0 rfl rfl) h0) (by kernel_rfl) u64_kinds (by kernel_rfl) (B := 8) (by kernel_rfl) (E := encU64) rfl u64_of
  obtain ⟨a1, n1, c1, l1, rfl, hr1, hcl1, hn1, hb1⟩ := open_sub (P := Try.prog) (t := 22) (e := 38) (arg_sub (e := 38) (j := 1) hsz rfl rfl (by kernel_rfl) (hval 1 22 v1 rfl rfl) h1) (by kernel_rfl) u64_kinds (by kernel_rfl) (B := 8) (by kernel_rfl) (E := encU64) rfl u64_of
  obtain ⟨x2, rfl, hcl2⟩ := Go.Sx.open_int (P := Try.prog) (k := .u64) (t := 38) (by kernel_rfl) (hval 2 38 v2 rfl rfl) h2
  clear hA0 hA1 hval0 hsz0
  refine (CallsW.calls ⟨_, Try.func6, by kernel_rfl, by kernel_rfl⟩ (MarkKeys_ok hr0 hcl0 hn0 hb0 hr1 hcl1 hn1 hb1 hcl2)).mono fun e W' ⟨w', hh, hk, v, he, hv, hg⟩ => ?_
  subst he; subst hv
  exact ⟨_, rfl, post_true (tb := 4) (by kernel_rfl) rfl (by kernel_rfl) (by kernel_rfl) ⟨rfl, rfl, rfl⟩ (by decide +kernel) hW' (below_of hg hh hk)⟩

theorem markKeys_holds : Rows.MarkKeysSaid :=
  OpenClaim.holds_of_wide 6 Try.f6 rfl rfl rfl rfl rfl rfl rfl ⟨rfl, rfl, rfl, rfl, rfl⟩ rfl rfl rfl rfl rfl (by kernel_rfl) Try.func6 (by kernel_rfl)
    (of_decide_eq_true (by kernel_rfl)) (by unfold Func.isWrapper; first | (rw [if_pos (by decide +kernel)]; kernel_rfl) | (rw [if_neg (by decide +kernel)]; exact ⟨rfl, rfl⟩))
    (fun os started H enc _ => markKeys_lifted os started H enc)
end Go.Proofs.Yteakjjbajjkloaa
