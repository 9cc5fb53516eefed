/- ScriptReads: what it computes. Conditions: none. -/
import Derived.Test.YtbmmaibbiahkkaaGreatDoorProg
import Derived.Test.YtbmmaibbiahkkaaGreatDoorScrN
import Derived.Test.YtbmmaibbiahkkaaGreatDoorKindsP
import Derived.Test.YtbmmaibbiahkkaaGreatDoorRows
import Derived.Test.YtbmmaibbiahkkaaGreatDoorTie
import Derived.Test.YtbmmaibbiahkkaaGreatDoorCards
import Derived.SevenTiedAt
import Derived.Stop.Joined
namespace Go.Proofs.YtbmmaibbiahkkaaGreatDoor
open Go.Sx
set_option maxRecDepth 100000
set_option linter.unusedVariables false
set_option linter.unusedSimpArgs false
def sx3 (text : ByteArray) (R : Ending → World → Prop) (w : World) : Prop :=
 Aa Tryz.prog 10 [] w (RetR R fun u2 w1 => ∃ b3, u2 = .bool b3 ∧ ifB (!b3) (R (.returned (.bool false)) w1) (Aa Tryz.prog 11 [.string text] w1 (RetR R fun u6 w5 => ∃ n7 n8 n9 a10 l10 c10 n11 n12 n13 n14 a15 l15 c15 n16 n17, u6 = .tuple #[.agg #[.int .i64 n7, .int .i64 n8, .int .i64 n9, .slice a10 l10 c10, .int .i64 n11, .int .i64 n12, .int .i64 n13, .int .i64 n14], .slice a15 l15 c15, .int .i64 n16, .int .i64 n17] ∧ ∀ w19, Grew w5 w19 → Aa Tryz.prog 12 [.string text] w19 (RetR R fun u21 w20 => ∃ n22 n23 n24 a25 l25 c25 n26 n27 n28 n29 a30 l30 c30 n31 n32, u21 = .tuple #[.agg #[.int .i64 n22, .int .i64 n23, .int .i64 n24, .slice a25 l25 c25, .int .i64 n26, .int .i64 n27, .int .i64 n28, .int .i64 n29], .slice a30 l30 c30, .int .i64 n31, .int .i64 n32] ∧ ∀ w34, Grew w20 w34 → Aa Tryz.prog 13 [.agg #[.int .i64 n7, .int .i64 n8, .int .i64 n9, .slice a10 l10 c10, .int .i64 n11, .int .i64 n12, .int .i64 n13, .int .i64 n14], .agg #[.int .i64 n22, .int .i64 n23, .int .i64 n24, .slice a25 l25 c25, .int .i64 n26, .int .i64 n27, .int .i64 n28, .int .i64 n29]] w34 (RetR R fun u36 w35 => ∃ b37, u36 = .bool b37 ∧ ifB b37 (Aa Tryz.prog 14 [.slice a15 l15 c15, .slice a30 l30 c30] w35 (RetR R fun u40 w39 => ∃ b41, u40 = .bool b41 ∧ ifB b41 (ifB (n16 == n31) (R (.returned (.bool (n17 == n32))) w39) (R (.returned (.bool false)) w39)) (R (.returned (.bool false)) w39))) (R (.returned (.bool false)) w35))))))
theorem sx3.ok {text : ByteArray} {R : Ending → World → Prop} {w : World} (h : sx3 text R w) : Aa Tryz.prog 3 [.string text] w R :=
 okOf { locals := [3, 7] } mix Tryz.func3 (by kernel_rfl) (by kernel_rfl) (by kernel_rfl) h
theorem Im {t : L8} {w : World} (hG : Glob w) : Aa Tryz.prog 3 [.string (bs t)] w (Rets fun v w' => v = .bool true ∧ Grew w w') := by
 refine sx3.ok ?_
 unfold sx3
 refine (Od hG).use fun v w1 ⟨hv, hg1⟩ => ?_
 subst hv
 refine ⟨_, rfl, fun h => (by cases h), fun _ => (Gf (hG.grew hg1)).use fun v w5 ⟨hv, hg5⟩ => ?_⟩
 obtain ⟨o, s, rfl, ho, hs⟩ := D4 hv
 refine ⟨_, _, _, _, _, _, _, _, _, _, _, _, _, _, _, rfl, fun w19 hg19 => Mo.use fun v w20 ⟨hv, hg20⟩ => ?_⟩
 obtain ⟨o', s', rfl, ho', hs'⟩ := D4 hv
 refine ⟨_, _, _, _, _, _, _, _, _, _, _, _, _, _, _, rfl, fun w34 hg34 => (N8 (ho.reads.grew (hg19.trans (hg20.trans hg34))) (ho'.reads.grew hg34) (by have := ho.le; have := ho.len; omega)).use fun v w35 ⟨hv, hg35⟩ => ?_⟩
 subst hv
 refine ⟨_, rfl, fun _ => (Mc (hs.reads.grew (hg19.trans (hg20.trans (hg34.trans hg35)))) (hs'.reads.grew (hg34.trans hg35)) (by have := hs.le; have := hs.len; omega)).use fun v w39 ⟨hv, hg39⟩ => ?_, fun h => ?_⟩
 ·subst hv
  refine ⟨_, rfl, fun _ => ⟨fun _ => ⟨_, rfl, by simp, hg1.trans (hg5.trans (hg19.trans (hg20.trans (hg34.trans (hg35.trans hg39)))))⟩, fun h => ?_⟩, fun h => ?_⟩
  ·simp at h
  ·simp at h
 ·simp at h
open Go.ChangeShapes Go.WideShapes Go.ChangeAt Go.RowKit
set_option maxRecDepth 100000 in
theorem scriptReads_lifted (os : Os) (started : os.Started) (H : Type) (enc : TypeId × Value → H) :
  ReturnsInHanded {} Tryz.checked os 3 .any (fun w args => (Rows.scriptReadsSpec.pre enc Tryz.prog Tryz.f3 Rows.scriptReadsRow.domain false w args ∧ laidMetH Tryz.prog Il w) ∧ sizedMet enc Tryz.prog Tryz.f3 (OpenSpec.ofChange Rows.scriptReadsSpec) false w args) (Rows.scriptReadsSpec.post enc Tryz.prog Tryz.f3 false true false false) := by
 refine returnsInHanded_of_change_and (C := Tryz.checked) (X := fun w _ => laidMetH Tryz.prog Il w) (fun _ _ _ hh h => h.of_heap hh) own started (by kernel_rfl) Tryz.func3
  (ChangeSpec.witness_shaped (enc := enc) (C := Tryz.checked) (os := os) (X := fun w _ => laidMetH Tryz.prog Il w) false (World.laidAll Tryz.prog os Il) #[.string ⟨#[]⟩] 8 (World.laidAll_os _ _ _)
   (World.shaped_of_ZipB (by kernel_rfl) (by kernel_rfl)) (by kernel_rfl) (by kernel_rfl) (by kernel_rfl) (Oe os _)) ?_
 intro W base args ds gs before hval0 hW hcnd hsz0 hL0 _
 have hL := O1 hL0
 have hval : ∀ (j : Nat) t v, Tryz.f3.params[j]? = some t → args[j]? = some v → Value.okWide Tryz.prog W .any base t v := hval0
 have hW' := hW
 obtain ⟨p, q, hA0, hV, rfl, hfz, hnd⟩ := hW
 have hA : DataW.TrodAll enc Tryz.prog W 0 (fun _ => true) true Tryz.f3.params.toList args.toList ds p := hA0
 have hsz : (DataW.weightsEach Tryz.prog (Tryz.f3.params.toList ++ _) (ds ++ gs)).all (· ≤ reachBytes) = true := hsz0
 rw [show Tryz.f3.params = #[9] from by kernel_rfl] at hA hval hsz
 have hA1 := hA
 obtain ⟨v0, vs0, d0, ds0, p0, q0, hargs, rfl, rfl, h0, r0⟩ := trodAll_cons hA
 obtain ⟨rfl, rfl, rfl⟩ := trodAll_nil r0
 obtain rfl : args = #[v0] := by cases args; simp_all
 obtain ⟨s0, rfl⟩ := okWide_string (P := Tryz.prog) (t := 9) (by kernel_rfl) (hval 0 9 v0 rfl rfl)
 obtain ⟨t0, rfl⟩ := O3 s0
 clear hA0 hA1 hval0 hsz0
 refine (Aa.calls ⟨_, Tryz.func3, by kernel_rfl, by kernel_rfl⟩ (Im hL )).mono fun e W' ⟨w', hh, hk, v, he, hv, hg⟩ => ?_
 subst he; subst hv
 exact ⟨_, rfl, Mf (tb := 4) (by kernel_rfl) rfl (by kernel_rfl) (by kernel_rfl) ⟨rfl, rfl, rfl⟩ (by decide +kernel) hW' (M3 hg hh hk)⟩
theorem Gh : Rows.ScriptReadsSaid :=
 OpenClaim.holds_of_wide 3 Tryz.f3 rfl rfl rfl rfl rfl rfl rfl ⟨rfl, rfl, rfl, rfl, rfl⟩ rfl rfl rfl rfl rfl (by kernel_rfl) Tryz.func3 (by kernel_rfl)
  (of_decide_eq_true (by kernel_rfl)) (by unfold Func.isWrapper; first | (rw [if_pos (by decide +kernel)]; kernel_rfl) | (rw [if_neg (by decide +kernel)]; exact ⟨rfl, rfl⟩))
  (fun os started H enc _ => scriptReads_lifted os started H enc)
theorem scriptReads_card : Rows.ScriptReadsCardSaid :=
 Claim7.holds_tied_plain_at .later [] [.data, .data, .data, .data, .sentinel, .sentinel, .pinned] true (true, "b64c46686f643c001f31f6c1b533c0d7c0642b988dd47f138c5c01a8a4cb7604") true Gh (fun _ h => by cases h) (by kernel_rfl) (fun _ h => by cases h) scriptReads_row_tie rfl ⟨rfl, rfl⟩ (by kernel_rfl) rfl
  (fun f fn hf hfn => by
   obtain rfl : f = 3 := Option.some.inj ((show Tryz.prog.funcNamed "reprise/repriselaw21.ScriptReads" = some 3 by kernel_rfl).symm.trans hf) |>.symm
   obtain rfl : fn = Tryz.f3 := (Option.some.inj (Tryz.func3.symm.trans hfn)).symm
   exact ⟨by kernel_rfl, fun j t ht => by
    rw [show Tryz.f3.params = #[9] from by kernel_rfl] at ht
    have hm : t ∈ [9] := by simpa using Array.mem_of_getElem? ht
    have hall : ([9].all fun u => !Tryz.prog.wantsStandIn u) = true := by kernel_rfl
    exact (show Tryz.prog.wantsStandIn t = false by simpa using List.all_eq_true.1 hall t hm)⟩)
  (by kernel_rfl)
end Go.Proofs.YtbmmaibbiahkkaaGreatDoor
