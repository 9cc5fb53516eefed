/- BucketRaw: what it computes, and its row. Conditions: none. -/
import Derived.Test.YtnbknhcpjggabaaProg
import Derived.Test.YtnbknhcpjggabaaRef3
import Derived.Test.YtnbknhcpjggabaaSxQ
import Derived.Test.YtnbknhcpjggabaaRows
namespace Go.Proofs.Ytnbknhcpjggabaa
open Go.Sx
set_option maxRecDepth 100000
set_option linter.unusedVariables false
set_option linter.unusedSimpArgs false
/- reprise/repriselaw11.BucketRaw -/
def sx4 (b : Option Addr) (b_n b_c : Nat) (R : Ending → World → Prop) (w : World) : Prop :=
  CallsW Try.prog 9 [] w (RetR R fun u2 w1 => ∃ (b3 : Bool), u2 = .bool b3 ∧ (((!b3) = true → R (.returned (.bool false)) w1) ∧ ((!b3) = false → CallsW Try.prog 12 [.slice b b_n b_c] w1 (RetR R fun u6 w5 => ∃ (a7 : Option
    Addr) (l7 c7 : Nat) (n8 : Int), u6 = .tuple #[.slice a7 l7 c7, .int .i64 n8] ∧ CallsW Try.prog 13 [.slice b b_n b_c] w5 (RetR R fun u11 w10 => ∃ (a12 : Option Addr) (l12 c12 : Nat) (n13 : Int), u11 = .tuple #[.slice
    a12 l12 c12, .int .i64 n13] ∧ CallsW Try.prog 14 [.slice a7 l7 c7, .slice a12 l12 c12] w10 (RetR R fun u16 w15 => ∃ (b17 : Bool), u16 = .bool b17 ∧ ((b17 = true → R (.returned (.bool (n8 == n13))) w15) ∧ (b17 = false
    → R (.returned (.bool false)) w15))))))))
theorem sx4.ok {b : Option Addr} {b_n b_c : Nat} {R : Ending → World → Prop} {w : World} (h : sx4 b b_n b_c R w) : CallsW Try.prog 4 [.slice b b_n b_c] w R :=
  callsW_of mix Try.func4 (by kernel_rfl) (by kernel_rfl) (Eq.mpr (by kernel_rfl : denFn Try.prog {} Try.f4 [.slice b b_n b_c] R w = sx4 b b_n b_c R w) h)

open Go.ChangeShapes Go.WideShapes Go.ChangeAt Go.RowKit

theorem BucketRaw_ok {a : Option Addr} {n c : Nat} {l : List Int} {w : World} (hr : Reads w (Enc.int .u8) (a, n, c) l) (hb : Bytes l) (hn : l.length ≤ 9223372036854775807) :
    CallsW Try.prog 4 [.slice a n c] w (Rets fun v w' => v = .bool true ∧ Grew w w') := by
  refine sx4.ok ?_
  unfold sx4
  refine awake_ok.use fun v w1 ⟨hv, hg1⟩ => ?_
  subst hv
  refine ⟨_, rfl, fun h => (by cases h), fun _ => ?_⟩
  refine (Decode_ok (hr.grew hg1) hb hn).use fun v w5 ⟨a7, l7, c7, hv, ho5, hg5⟩ => ?_
  subst hv
  have hr5 := (hr.grew hg1).grew hg5
  refine ⟨_, _, _, _, rfl, (rDecode_ok hr5 hb hn (Reads.lt hr5)).use fun v w10 ⟨a12, l12, c12, hv, ho10, hg10⟩ => ?_⟩
  subst hv
  refine ⟨_, _, _, _, rfl, (same_ok (ho5.grew hg10).reads ho10.reads ?_).use fun v w11 ⟨hv, hg11⟩ => ?_⟩
  · have := ho5.len; have := ho5.le; simp only [maxLen] at this; omega
  · subst hv
    refine ⟨_, rfl, fun _ => ⟨_, rfl, by simp, hg1.trans (hg5.trans (hg10.trans hg11))⟩, fun h => by simp at h⟩

theorem byte_of_kinds (cs : List Value) (h : AllK [.int .u8] cs) : ∃ x : Int, cs = (Enc.int .u8).f x ∧ (0 ≤ x ∧ x < 256) := by
  obtain ⟨hl, h⟩ := h
  match cs, hl with
  | [c0], _ =>
    obtain ⟨_, e0, n0, rfl, w0⟩ := h 0 _ rfl
    simp at e0; subst e0
    refine ⟨n0, rfl, ?_⟩
    simp [Lit.wf, IntKind.min, IntKind.max, IntKind.signed, IntKind.bits] at w0
    omega

set_option maxRecDepth 100000 in
theorem bucketRaw_lifted (os : Os) (started : os.Started) (H : Type) (enc : TypeId × Value → H) :
    ReturnsInHanded {} Try.checked os 4 .any (Rows.bucketRawSpec.pre6 enc Try.prog Try.f4 Rows.bucketRawRow.domain false) (Rows.bucketRawSpec.post enc Try.prog Try.f4 false true false false) := by
  refine returnsInHanded_of_change (C := Try.checked) (by kernel_rfl) started (by kernel_rfl) Try.func4
    (ChangeSpec.witness6 (enc := enc) (C := Try.checked) false ⟨#[], #[.slice none 0 0], []⟩ 8 (by kernel_rfl) (by kernel_rfl) (by kernel_rfl) (by kernel_rfl)) ?_
  intro W base args ds gs before hval0 hW hcnd _
  have hval : ∀ (j : Nat) t v, Try.f4.params[j]? = some t → args[j]? = some v → Value.okWide Try.prog W .any base t v := hval0
  have hW' := hW
  obtain ⟨p, q, hA0, hV, rfl, hfz, hnd⟩ := hW
  have hA : DataW.TrodAll enc Try.prog W 0 (fun _ => true) true Try.f4.params.toList args.toList ds p := hA0
  rw [show Try.f4.params = #[24] from by kernel_rfl] at hA hval
  obtain ⟨v0, vs0, d0, ds0, p0, q0, hargs, rfl, rfl, h0, r0⟩ := trodAll_cons hA
  obtain ⟨rfl, rfl, rfl⟩ := trodAll_nil r0
  obtain rfl : args = #[v0] := by cases args; simp_all
  obtain ⟨a, n, c, l, rfl, hr, hcl, hn⟩ := open_flat (P := Try.prog) (t := 24) (e := 5) (d := 2) (ks := [.int .u8]) (by kernel_rfl) (by kernel_rfl) (by kernel_rfl) (hval 0 24 v0 rfl rfl) h0 (E := Enc.int .u8) rfl byte_of_kinds
  have hlen : l.length ≤ 9223372036854775807 := by have := hr.2.1; simp only [maxLen] at hn; simp only at this; omega
  clear hA0 hval0
  refine (CallsW.calls ⟨_, Try.func4, by kernel_rfl, by kernel_rfl⟩ (BucketRaw_ok hr hcl hlen)).mono fun e W' ⟨w', hh, hk, v, he, hv, hg⟩ => ?_
  subst he; subst hv
  exact ⟨_, rfl, post_true (tb := 4) (by kernel_rfl) rfl (by kernel_rfl) (by kernel_rfl) ⟨rfl, rfl, rfl⟩ (by decide +kernel) hW' (below_of hg hh hk)⟩

theorem bucketRaw_holds : Rows.BucketRawSaid :=
  OpenClaim.holds_of_wide 4 Try.f4 rfl rfl rfl rfl rfl rfl rfl ⟨rfl, rfl, rfl, rfl, rfl⟩ rfl rfl rfl rfl rfl (by kernel_rfl) Try.func4 (by kernel_rfl)
    (of_decide_eq_true (by kernel_rfl)) (by unfold Func.isWrapper; first | (rw [if_pos (by decide +kernel)]; kernel_rfl) | (rw [if_neg (by decide +kernel)]; exact ⟨rfl, rfl⟩))
    (fun os started H enc _ => bucketRaw_lifted os started H enc)
end Go.Proofs.Ytnbknhcpjggabaa
