/- BucketBytes: what it computes, and its row. Conditions: none. -/
import Derived.Test.YtnbknhcpjggabaaProg
import Derived.Test.YtnbknhcpjggabaaRef1
import Derived.Test.YtnbknhcpjggabaaSxQ
import Derived.Test.YtnbknhcpjggabaaRows
namespace Go.Proofs.Ytnbknhcpjggabaa
open Go.Sx
set_option maxRecDepth 100000
set_option linter.unusedVariables false
set_option linter.unusedSimpArgs false
/- reprise/repriselaw11.BucketBytes -/
def sx3 (cells : Option Addr) (cells_n cells_c : Nat) (R : Ending → World → Prop) (w : World) : Prop :=
  CallsW Try.prog 9 [] w (RetR R fun u2 w1 => ∃ (b3 : Bool), u2 = .bool b3 ∧ (((!b3) = true → R (.returned (.bool false)) w1) ∧ ((!b3) = false → CallsW Try.prog 10 [.slice cells cells_n cells_c] w1 (RetR R fun u6 w5 => ∃
    (a7 : Option Addr) (l7 c7 : Nat) (n8 : Int), u6 = .tuple #[.slice a7 l7 c7, .int .i64 n8] ∧ CallsW Try.prog 11 [.slice cells cells_n cells_c] w5 (RetR R fun u11 w10 => ∃ (a12 : Option Addr) (l12 c12 : Nat) (n13 :
    Int), u11 = .tuple #[.slice a12 l12 c12, .int .i64 n13] ∧ SemW Try.prog (convert 24 9 (.slice a7 l7 c7)) (fun u16 w15 => ∃ (s17 : ByteArray), u16 = .string s17 ∧ SemW Try.prog (convert 24 9 (.slice a12 l12 c12)) (fun
    u19 w18 => ∃ (s20 : ByteArray), u19 = .string s20 ∧ ∃ (b21 : Bool), PureTo Try.prog (eqS .eql 9 (.tmp 20) (.tmp 22) (.string s17) (.string s20)) (.bool b21) ∧ ((b21 = true → R (.returned (.bool (n8 == n13))) w18) ∧
    (b21 = false → R (.returned (.bool false)) w18))) w15) w10)))))
theorem sx3.ok {cells : Option Addr} {cells_n cells_c : Nat} {R : Ending → World → Prop} {w : World} (h : sx3 cells cells_n cells_c R w) : CallsW Try.prog 3 [.slice cells cells_n cells_c] w R :=
  callsW_of mix Try.func3 (by kernel_rfl) (by kernel_rfl) (Eq.mpr (by kernel_rfl : denFn Try.prog { pureTo := [23], sem := [20, 22] } Try.f3 [.slice cells cells_n cells_c] R w = sx3 cells cells_n cells_c R w) h)

open Go.ChangeShapes Go.WideShapes Go.ChangeAt Go.RowKit

theorem BucketBytes_ok {a : Option Addr} {n c : Nat} {l : List CellV} {w : World} (hr : Reads w Enc.cell (a, n, c) l) (hf : Cells l) (hn : l.length ≤ 9223372036854775807) :
    CallsW Try.prog 3 [.slice a n c] w (Rets fun v w' => v = .bool true ∧ Grew w w') := by
  refine sx3.ok ?_
  unfold sx3
  refine awake_ok.use fun v w1 ⟨hv, hg1⟩ => ?_
  subst hv
  refine ⟨_, rfl, fun h => (by cases h), fun _ => ?_⟩
  refine (Encode_ok (hr.grew hg1) hf hn).use fun v w5 ⟨a7, l7, c7, hv, ho5, hg5⟩ => ?_
  subst hv
  refine ⟨_, _, _, _, rfl, (rEncode_ok ((hr.grew hg1).grew hg5) hf hn).use fun v w10 ⟨a12, l12, c12, hv, ho10, hg10⟩ => ?_⟩
  subst hv
  refine ⟨_, _, _, _, rfl, conv_str (e := 5) (by kernel_rfl) (by kernel_rfl) (by kernel_rfl) (ho5.grew hg10).reads ⟨_, rfl, conv_str (e := 5) (by kernel_rfl) (by kernel_rfl) (by kernel_rfl) ho10.reads ⟨_, rfl, _, eqS_str, fun _ => ⟨_, rfl, by simp, hg1.trans (hg5.trans hg10)⟩, fun h => (by rw [beq_toListBytes] at h; simp at h)⟩⟩⟩

theorem cell_kinds : kindsOf Try.prog 8 37 = some [.int .u64, .bool, .int .u64, .bool, .int .u64, .int .i64] := by kernel_rfl
theorem cell_of_kinds (cs : List Value) (h : AllK [.int .u64, .bool, .int .u64, .bool, .int .u64, .int .i64] cs) : ∃ x : CellV, cs = Enc.cell.f x ∧ x.Fits := by
  obtain ⟨hl, h⟩ := h
  match cs, hl with
  | [c0, c1, c2, c3, c4, c5], _ =>
    obtain ⟨_, e0, n0, rfl, w0⟩ := h 0 _ rfl
    obtain ⟨_, e1, b1, rfl⟩ := h 1 _ rfl
    obtain ⟨_, e2, n2, rfl, w2⟩ := h 2 _ rfl
    obtain ⟨_, e3, b3, rfl⟩ := h 3 _ rfl
    obtain ⟨_, e4, n4, rfl, w4⟩ := h 4 _ rfl
    obtain ⟨_, e5, n5, rfl, w5⟩ := h 5 _ rfl
    simp at e0 e1 e2 e3 e4 e5
    subst e0; subst e1; subst e2; subst e3; subst e4; subst e5
    refine ⟨⟨n0, b1, n2, b3, n4, n5⟩, rfl, ?_⟩
    simp [Lit.wf, IntKind.min, IntKind.max, IntKind.signed, IntKind.bits] at w0 w2 w4 w5
    constructor <;> simp [u64m] <;> omega

theorem own11 : ownKnob Try.prog.godebug = none := by kernel_rfl
theorem laidOut11 : laidOutB Try.prog = true := by kernel_rfl

set_option maxRecDepth 100000 in
theorem bucketBytes_lifted (os : Os) (started : os.Started) (H : Type) (enc : TypeId × Value → H) :
    ReturnsInHanded {} Try.checked os 3 .any (Rows.bucketBytesSpec.pre6 enc Try.prog Try.f3 Rows.bucketBytesRow.domain false) (Rows.bucketBytesSpec.post enc Try.prog Try.f3 false true false false) := by
  refine returnsInHanded_of_change (C := Try.checked) own11 started (by kernel_rfl) Try.func3
    (ChangeSpec.witness6 (enc := enc) (C := Try.checked) false ⟨#[], #[.slice none 0 0], []⟩ 8 (by kernel_rfl) (by kernel_rfl) (by kernel_rfl) (by kernel_rfl)) ?_
  intro W base args ds gs before hval0 hW hcnd _
  have hval : ∀ (j : Nat) t v, Try.f3.params[j]? = some t → args[j]? = some v → Value.okWide Try.prog W .any base t v := hval0
  have hW' := hW
  obtain ⟨p, q, hA0, hV, rfl, hfz, hnd⟩ := hW
  have hA : DataW.TrodAll enc Try.prog W 0 (fun _ => true) true Try.f3.params.toList args.toList ds p := hA0
  rw [show Try.f3.params = #[22] from by kernel_rfl] at hA hval
  obtain ⟨v0, vs0, d0, ds0, p0, q0, hargs, rfl, rfl, h0, r0⟩ := trodAll_cons hA
  obtain ⟨rfl, rfl, rfl⟩ := trodAll_nil r0
  obtain rfl : args = #[v0] := by cases args; simp_all
  obtain ⟨a, n, c, l, rfl, hr, hcl, hn⟩ := open_flat (P := Try.prog) (t := 22) (e := 37) (by kernel_rfl) cell_kinds (by kernel_rfl) (hval 0 22 v0 rfl rfl) h0 (E := Enc.cell) rfl cell_of_kinds
  have hlen : l.length ≤ 9223372036854775807 := by have := hr.2.1; simp only [maxLen] at hn; simp only at this; omega
  clear hA0 hval0
  refine (CallsW.calls ⟨_, Try.func3, by kernel_rfl, by kernel_rfl⟩ (BucketBytes_ok hr hcl hlen)).mono fun e W' ⟨w', hh, hk, v, he, hv, hg⟩ => ?_
  subst he; subst hv
  exact ⟨_, rfl, post_true (tb := 4) laidOut11 rfl (by kernel_rfl) (by kernel_rfl) ⟨rfl, rfl, rfl⟩ (by decide +kernel) hW' (below_of hg hh hk)⟩

theorem bucketBytes_holds : Rows.BucketBytesSaid :=
  OpenClaim.holds_of_wide 3 Try.f3 rfl rfl rfl rfl rfl rfl rfl ⟨rfl, rfl, rfl, rfl, rfl⟩ rfl rfl rfl rfl rfl (by kernel_rfl) Try.func3 (by kernel_rfl)
    (of_decide_eq_true (by kernel_rfl)) (by unfold Func.isWrapper; first | (rw [if_pos (by decide +kernel)]; kernel_rfl) | (rw [if_neg (by decide +kernel)]; exact ⟨rfl, rfl⟩))
    (fun os started H enc _ => bucketBytes_lifted os started H enc)
end Go.Proofs.Ytnbknhcpjggabaa
