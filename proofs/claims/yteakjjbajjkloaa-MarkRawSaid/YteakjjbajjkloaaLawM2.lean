/- MarkRaw: what it computes, and its row. Conditions: none. -/
import Derived.Test.YteakjjbajjkloaaProg
import Derived.Test.YteakjjbajjkloaaMarkA
import Derived.Test.YteakjjbajjkloaaRows
namespace Go.Proofs.Yteakjjbajjkloaa
open Go.Sx
set_option maxRecDepth 100000
set_option linter.unusedVariables false
set_option linter.unusedSimpArgs false
/- reprise/repriselaw12.MarkRaw -/
def sx4 (b : Option Addr) (b_n b_c : Nat) (R : Ending → World → Prop) (w : World) : Prop :=
  CallsW Try.prog 11 [] w (RetR R fun u2 w1 => ∃ (b3 : Bool), u2 = .bool b3 ∧ (((!b3) = true → R (.returned (.bool false)) w1) ∧ ((!b3) = false → CallsW Try.prog 16 [.slice b b_n b_c] w1 (RetR R fun u6 w5 => ∃ (n7 : Int)
    (n8 : Int) (a9 : Option Addr) (l9 c9 : Nat) (n10 : Int), u6 = .tuple #[.agg #[.int .i64 n7, .int .i64 n8, .slice a9 l9 c9], .int .i64 n10] ∧ ∀ w12, Grew w5 w12 → CallsW Try.prog 17 [.slice b b_n b_c] w12 (RetR R fun
    u14 w13 => ∃ (n15 : Int) (n16 : Int) (a17 : Option Addr) (l17 c17 : Nat) (n18 : Int), u14 = .tuple #[.agg #[.int .i64 n15, .int .i64 n16, .slice a17 l17 c17], .int .i64 n18] ∧ ∀ w20, Grew w13 w20 → CallsW Try.prog 18
    [.agg #[.int .i64 n7, .int .i64 n8, .slice a9 l9 c9], .agg #[.int .i64 n15, .int .i64 n16, .slice a17 l17 c17]] w20 (RetR R fun u22 w21 => ∃ (b23 : Bool), u22 = .bool b23 ∧ ((b23 = true → R (.returned (.bool (n10 ==
    n18))) w21) ∧ (b23 = false → R (.returned (.bool false)) w21))))))))
theorem sx4.ok {b : Option Addr} {b_n b_c : Nat} {R : Ending → World → Prop} {w : World} (h : sx4 b b_n b_c R w) : CallsW Try.prog 4 [.slice b b_n b_c] w R :=
  callsW_of mix Try.func4 (by kernel_rfl) (by kernel_rfl) (Eq.mpr (by kernel_rfl : denFn Try.prog { locals := [3, 5] } Try.f4 [.slice b b_n b_c] R w = sx4 b b_n b_c R w) h)


def encU8 : Enc Int := Enc.int .u8
theorem Reads.low {w : World} {a : Option Addr} {n c : Nat} {l : List Int} (h : Reads w (Enc.int .u8) (a, n, c) l) : ∀ x, Blk a x → l ≠ [] → x < w.heap.size := by
  rintro x ⟨d, hd, rfl⟩ hne
  have hn : n = l.length := h.2.1
  have hp : 0 < l.length := List.length_pos_iff.2 hne
  obtain ⟨d', y, hd', -, hc⟩ := h.at0 (k := 0) (by omega)
  rw [hd] at hd'; cases hd'
  exact World.block_lt_of_cell? w _ (show w.cell? d = some (.int .u8 y) by simpa [Enc.int, CellsAt, Addr.add_zero'] using hc.1)

theorem MarkRaw_ok {a : Option Addr} {n c : Nat} {l : List Int} {w : World} (hr : Reads w (Enc.int .u8) (a, n, c) l) (hb : ∀ x ∈ l, 0 ≤ x ∧ x < 256) (hn : l.length ≤ maxLen) (hbl : l.length * 1 ≤ 140737488351232) :
    CallsW Try.prog 4 [.slice a n c] w (Rets fun v w' => v = .bool true ∧ Grew w w') := by
  refine sx4.ok ?_
  unfold sx4
  refine awakeM_ok.use fun v w1 ⟨hv, hg1⟩ => ?_
  subst hv
  refine ⟨_, rfl, fun h => (by cases h), fun _ => ?_⟩
  have hr1 := hr.grew hg1
  refine (MDecode_ok hr1 hb (by omega) (Reads.low hr1)).use fun v w5 ⟨a9, l9, c9, hv, ho5, hg5⟩ => ?_
  subst hv
  refine ⟨_, _, _, _, _, _, rfl, fun w12 hg12 => ?_⟩
  have hr12 := (hr1.grew hg5).grew hg12
  refine (rMDecode_ok hr12 hb (by omega) (Reads.low hr12)).use fun v w13 ⟨a17, l17, c17, hv, ho13, hg13⟩ => ?_
  subst hv
  refine ⟨_, _, _, _, _, _, rfl, fun w20 hg20 => ?_⟩
  have hl5 := ho5.len
  have hle5 := ho5.le
  refine (sameMark_ok (m := (decodeM l).1) (k := (decodeM l).1) (ho5.grew ((hg12.trans hg13).trans hg20)).reads (ho13.grew hg20).reads ?_).use fun v w21 ⟨hv, hg21⟩ => ?_
  · rcases Classical.em ((decodeM l).2 = 0) with h0 | h0
    · have := (decodeM_back hb h0).2.1
      simp only [soundM, Bool.and_eq_true, decide_eq_true_eq] at this
      omega
    · have : (decodeM l).1 = mark0 := by
        unfold decodeM at h0 ⊢
        split
        · rfl
        · rename_i h1
          rw [if_neg h1] at h0
          split
          · rfl
          · rename_i h2
            rw [if_neg h2] at h0
            split
            · rfl
            · rename_i h3
              rw [if_neg h3] at h0
              exact absurd rfl h0
      rw [this]; simp [mark0]
  subst hv
  rw [sameM_refl]
  exact ⟨_, rfl, fun _ => ⟨_, rfl, by simp, hg1.trans (hg5.trans (hg12.trans (hg13.trans (hg20.trans hg21))))⟩, fun h => (by cases h)⟩

open Go.ChangeShapes Go.WideShapes Go.ChangeAt Go.RowKit
set_option maxRecDepth 100000 in
theorem markRaw_lifted (os : Os) (started : os.Started) (H : Type) (enc : TypeId × Value → H) :
    ReturnsInHanded {} Try.checked os 4 .any (Rows.markRawSpec.pre6 enc Try.prog Try.f4 Rows.markRawRow.domain false) (Rows.markRawSpec.post enc Try.prog Try.f4 false true false false) := by
  refine returnsInHanded_of_change_sized (C := Try.checked) (by kernel_rfl) started (by kernel_rfl) Try.func4
    (ChangeSpec.witness6 (enc := enc) (C := Try.checked) false ⟨#[], #[.slice none 0 0], []⟩ 8 (by kernel_rfl) (by kernel_rfl) (by kernel_rfl) (by kernel_rfl)) ?_
  intro W base args ds gs before hval0 hW hcnd hsz0 _
  have hval : ∀ (j : Nat) t v, Try.f4.params[j]? = some t → args[j]? = some v → Value.okWide Try.prog W .any base t v := hval0
  have hW' := hW
  obtain ⟨p, q, hA0, hV, rfl, hfz, hnd⟩ := hW
  have hA : DataW.TrodAll enc Try.prog W 0 (fun _ => true) true Try.f4.params.toList args.toList ds p := hA0
  have hsz : (DataW.weightsEach Try.prog (Try.f4.params.toList ++ _) (ds ++ gs)).all (· ≤ reachBytes) = true := hsz0
  rw [show Try.f4.params = #[26] from by kernel_rfl] at hA hval hsz
  have hA1 := hA
  obtain ⟨v0, vs0, d0, ds0, p0, q0, hargs, rfl, rfl, h0, r0⟩ := trodAll_cons hA
  obtain ⟨rfl, rfl, rfl⟩ := trodAll_nil r0
  obtain rfl : args = #[v0] := by cases args; simp_all
  obtain ⟨a0, n0, c0, l0, rfl, hr0, hcl0, hn0, hb0⟩ := open_sub (P := Try.prog) (t := 26) (e := 5) (arg_sub (e := 5) (j := 0) hsz rfl rfl (by kernel_rfl) (hval 0 26 v0 rfl rfl) h0) (by kernel_rfl) u8_kinds (by kernel_rfl) (B := 1) (by kernel_rfl) (E := encU8) rfl u8_of
  clear hA0 hA1 hval0 hsz0
  refine (CallsW.calls ⟨_, Try.func4, by kernel_rfl, by kernel_rfl⟩ (MarkRaw_ok hr0 hcl0 hn0 hb0)).mono fun e W' ⟨w', hh, hk, v, he, hv, hg⟩ => ?_
  subst he; subst hv
  exact ⟨_, rfl, post_true (tb := 4) (by kernel_rfl) rfl (by kernel_rfl) (by kernel_rfl) ⟨rfl, rfl, rfl⟩ (by decide +kernel) hW' (below_of hg hh hk)⟩

theorem markRaw_holds : Rows.MarkRawSaid :=
  OpenClaim.holds_of_wide 4 Try.f4 rfl rfl rfl rfl rfl rfl rfl ⟨rfl, rfl, rfl, rfl, rfl⟩ rfl rfl rfl rfl rfl (by kernel_rfl) Try.func4 (by kernel_rfl)
    (of_decide_eq_true (by kernel_rfl)) (by unfold Func.isWrapper; first | (rw [if_pos (by decide +kernel)]; kernel_rfl) | (rw [if_neg (by decide +kernel)]; exact ⟨rfl, rfl⟩))
    (fun os started H enc _ => markRaw_lifted os started H enc)
end Go.Proofs.Yteakjjbajjkloaa
