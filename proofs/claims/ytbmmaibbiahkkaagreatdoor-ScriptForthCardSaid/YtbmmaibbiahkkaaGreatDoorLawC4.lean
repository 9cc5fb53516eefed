/- ScriptForth: what it computes. Conditions: none. -/
import Derived.Test.YtbmmaibbiahkkaaGreatDoorProg
import Derived.Test.YtbmmaibbiahkkaaGreatDoorScrN
import Derived.Test.YtbmmaibbiahkkaaGreatDoorScrO
import Derived.Test.YtbmmaibbiahkkaaGreatDoorKindsP
import Derived.Test.YtbmmaibbiahkkaaGreatDoorRows
import Derived.Test.YtbmmaibbiahkkaaGreatDoorTie
import Derived.Test.YtbmmaibbiahkkaaGreatDoorCards
import Derived.SevenTiedAt
import Derived.Stop.Joined
namespace Go.Proofs.YtbmmaibbiahkkaaGreatDoor
open Go.Sx
set_option maxRecDepth 100000
set_option linter.unusedVariables false
set_option linter.unusedSimpArgs false
def sx6 (d : ByteArray) (R : Ending → World → Prop) (w : World) : Prop :=
 Aa Tryz.prog 10 [] w (RetR R fun u2 w1 => ∃ b3, u2 = .bool b3 ∧ ifB (!b3) (R (.returned (.bool false)) w1) (Aa Tryz.prog 11 [.string d] w1 (RetR R fun u6 w5 => ∃ n7 n8 n9 a10 l10 c10 n11 n12 n13 n14 a15 l15 c15 n16 n17, u6 = .tuple #[.agg #[.int .i64 n7, .int .i64 n8, .int .i64 n9, .slice a10 l10 c10, .int .i64 n11, .int .i64 n12, .int .i64 n13, .int .i64 n14], .slice a15 l15 c15, .int .i64 n16, .int .i64 n17] ∧ ∀ w19, Grew w5 w19 → ifB (n17 != 0) (Aa Tryz.prog 13 [.agg #[.int .i64 n7, .int .i64 n8, .int .i64 n9, .slice a10 l10 c10, .int .i64 n11, .int .i64 n12, .int .i64 n13, .int .i64 n14], .agg #[.int .i64 0, .int .i64 0, .int .i64 0, .slice none 0 0, .int .i64 0, .int .i64 0, .int .i64 0, .int .i64 0]] w19 (RetR R fun u21 w20 => ∃ b22, u21 = .bool b22 ∧ ifB b22 (ifB (((l15 : Nat) : Int) == 0) (ifB (decide (n16 ≥ 0)) (ifB ((n16 == 0) == (n17 == 6)) (R (.returned (.bool ((n17 == 6) == decide (((ByteArray.size d : Nat) : Int) > 262144)))) w20) (R (.returned (.bool false)) w20)) (R (.returned (.bool false)) w20)) (R (.returned (.bool false)) w20)) (R (.returned (.bool false)) w20))) (Aa Tryz.prog 15 [.agg #[.int .i64 n7, .int .i64 n8, .int .i64 n9, .slice a10 l10 c10, .int .i64 n11, .int .i64 n12, .int .i64 n13, .int .i64 n14], .slice a15 l15 c15] w19 (RetR R fun u25 w24 => ∃ s26 n27, u25 = .tuple #[.string s26, .int .i64 n27] ∧ Aa Tryz.prog 17 [.string d] w24 (RetR R fun u30 w29 => ∃ s31, u30 = .string s31 ∧ ifB (decide (((ByteArray.size s31 : Nat) : Int) > 262144)) (ifB (n27 == 6) (∃ b33, An Tryz.prog (eqS .eql 9 (.tmp 62) (.const (.string (ByteArray.mk (#[]) : ByteArray))) (.string s26) (.string (ByteArray.mk (#[]) : ByteArray))) (.bool b33) ∧ R (.returned (.bool b33)) w29) (R (.returned (.bool false)) w29)) (ifB (n16 == 0) (ifB (n27 == 0) (∃ b34, An Tryz.prog (eqS .eql 9 (.tmp 72) (.tmp 73) (.string s26) (.string s31)) (.bool b34) ∧ R (.returned (.bool b34)) w29) (R (.returned (.bool false)) w29)) (R (.returned (.bool false)) w29))))))))
theorem sx6.ok {d : ByteArray} {R : Ending → World → Prop} {w : World} (h : sx6 d R w) : Aa Tryz.prog 6 [.string d] w R :=
 okOf { locals := [3], pureTo := [63, 74] } mix Tryz.func6 (by kernel_rfl) (by kernel_rfl) (by kernel_rfl) h
theorem Im {t : L8} {w : World} (hG : Glob w) : Aa Tryz.prog 6 [.string (bs t)] w (Rets fun v w' => v = .bool true ∧ Grew w w') := by
 refine sx6.ok ?_
 unfold sx6
 refine (N8 hG).use fun v w1 ⟨hv, hg1⟩ => ?_
 subst hv
 refine ⟨_, rfl, fun h => (by cases h), fun _ => (Gi (hG.grew hg1)).use fun v w5 ⟨hv, hg5⟩ => ?_⟩
 obtain ⟨o, s, rfl, ho, hs⟩ := Fa hv
 have hg15 := hg1.trans hg5
 refine ⟨_, _, _, _, _, _, _, _, _, _, _, _, _, _, _, rfl, fun w19 hg19 => ?_⟩
 have hg119 := hg15.trans hg19
 cases hp : Bs t with
 | error x =>
  obtain ⟨e, m⟩ := x
  rw [hp] at ho hs
  have he := Ms hp
  have hsl : s.2.1 = 0 := hs.len
  refine ⟨fun _ => (N3 (q := ⟨0, 0, 0, 0, 0, 0, 0, []⟩) (o' := (none, 0, 0)) (ho.reads.grew hg19) Reads.nil (by exact Nat.zero_le _)).use fun v w20 ⟨hv, hg20⟩ => ?_, fun h => ?_⟩
  ·subst hv
   refine ⟨_, rfl, fun _ => ⟨fun _ => ⟨fun _ => ⟨fun _ => ⟨_, rfl, ?_, hg119.trans hg20⟩, fun h => ?_⟩, fun h => ?_⟩, fun h => ?_⟩, fun h => ?_⟩
   ·rw [Ar]
    congr 1
    rcases he with ⟨h1, rfl, -⟩ | ⟨h1, h2, -⟩
    ·simp only [pE, beq_self_eq_true, gt_iff_lt, beq_iff_eq]
     symm; rw [decide_eq_true_eq]; omega
    ·have e6 : (pE (.error (e, m) : Except (Int × Nat) (ScrP × List Ag)) == 6) = false := by
      show (e == 6) = false
      rw [beq_eq_false_iff_ne]; omega
     have e7 : decide (((t.length : Nat) : Int) > 262144) = false := by rw [decide_eq_false_iff_not]; omega
     rw [e6, e7]; rfl
   ·exfalso
    rcases he with ⟨-, rfl, rfl⟩ | ⟨-, h2, h3, -⟩
    ·revert h; decide
    ·have e6 : (pE (.error (e, m) : Except (Int × Nat) (ScrP × List Ag)) == 6) = false := by
      show (e == 6) = false
      rw [beq_eq_false_iff_ne]; omega
     have e7 : (pA (.error (e, m) : Except (Int × Nat) (ScrP × List Ag)) == 0) = false := by
      show ((m : Int) == 0) = false
      rw [beq_eq_false_iff_ne]; omega
     rw [e6, e7] at h; cases h
   ·exfalso
    simp only [decide_eq_false_iff_not] at h
    exact h (Int.natCast_nonneg m)
   ·rw [hsl] at h; cases h
   ·simp [pP] at h
  ·exfalso
   have : e = 0 := by simpa [pE] using h
   omega
 | ok x =>
  obtain ⟨p, l⟩ := x
  rw [hp] at ho hs
  obtain ⟨hpr, hpf, hlf, hl4, ht⟩ := Pn hp
  refine ⟨fun h => (by cases h), fun _ => (Kt (p := p) (steps := l) (hG.grew hg119) hpf hlf (ho.reads.grew hg19) (hs.reads.grew hg19)).use fun v w24 ⟨hv, hg24⟩ => ?_⟩
  rw [hpr] at hv
  subst hv
  by_cases hb : 262144 < (H7 t).length
  ·rw [if_pos hb]
   refine ⟨_, _, rfl, (L3 (by omega)).use fun v w29 ⟨hv, hg29⟩ => ?_⟩
   subst hv
   refine ⟨_, rfl, fun _ => ⟨fun _ => ⟨_, Ff (a := []) (b := []), _, rfl, rfl, hg119.trans (hg24.trans hg29)⟩, fun h => (by cases h)⟩, fun h => ?_⟩
   rw [Ar] at h
   simp only [gt_iff_lt, decide_eq_false_iff_not] at h
   omega
  ·rw [if_neg hb]
   refine ⟨_, _, rfl, (L3 (by omega)).use fun v w29 ⟨hv, hg29⟩ => ?_⟩
   subst hv
   refine ⟨_, rfl, fun h => ?_, fun _ => ⟨fun _ => ⟨fun _ => ⟨_, Ff, _, rfl, by simp, hg119.trans (hg24.trans hg29)⟩, fun h => (by cases h)⟩, fun h => (by cases h)⟩⟩
   rw [Ar] at h
   simp only [gt_iff_lt, decide_eq_true_eq] at h
   omega
open Go.ChangeShapes Go.WideShapes Go.ChangeAt Go.RowKit
set_option maxRecDepth 100000 in
theorem scriptForth_lifted (os : Os) (started : os.Started) (H : Type) (enc : TypeId × Value → H) :
  ReturnsInHanded {} Tryz.checked os 6 .any (fun w args => (Rows.scriptForthSpec.pre enc Tryz.prog Tryz.f6 Rows.scriptForthRow.domain false w args ∧ laidMetH Tryz.prog Il w) ∧ sizedMet enc Tryz.prog Tryz.f6 (OpenSpec.ofChange Rows.scriptForthSpec) false w args) (Rows.scriptForthSpec.post enc Tryz.prog Tryz.f6 false true false false) := by
 refine returnsInHanded_of_change_and (C := Tryz.checked) (X := fun w _ => laidMetH Tryz.prog Il w) (fun _ _ _ hh h => h.of_heap hh) own started (by kernel_rfl) Tryz.func6
  (ChangeSpec.witness_shaped (enc := enc) (C := Tryz.checked) (os := os) (X := fun w _ => laidMetH Tryz.prog Il w) false (World.laidAll Tryz.prog os Il) #[.string ⟨#[]⟩] 8 (World.laidAll_os _ _ _)
   (World.shaped_of_ZipB (by kernel_rfl) (by kernel_rfl)) (by kernel_rfl) (by kernel_rfl) (by kernel_rfl) (Oa os _)) ?_
 intro W base args ds gs before hval0 hW hcnd hsz0 hL0 _
 have hL := Oy hL0
 have hval : ∀ (j : Nat) t v, Tryz.f6.params[j]? = some t → args[j]? = some v → Value.okWide Tryz.prog W .any base t v := hval0
 have hW' := hW
 obtain ⟨p, q, hA0, hV, rfl, hfz, hnd⟩ := hW
 have hA : DataW.TrodAll enc Tryz.prog W 0 (fun _ => true) true Tryz.f6.params.toList args.toList ds p := hA0
 have hsz : (DataW.weightsEach Tryz.prog (Tryz.f6.params.toList ++ _) (ds ++ gs)).all (· ≤ reachBytes) = true := hsz0
 rw [show Tryz.f6.params = #[9] from by kernel_rfl] at hA hval hsz
 have hA1 := hA
 obtain ⟨v0, vs0, d0, ds0, p0, q0, hargs, rfl, rfl, h0, r0⟩ := trodAll_cons hA
 obtain ⟨rfl, rfl, rfl⟩ := trodAll_nil r0
 obtain rfl : args = #[v0] := by cases args; simp_all
 obtain ⟨s0, rfl⟩ := okWide_string (P := Tryz.prog) (t := 9) (by kernel_rfl) (hval 0 9 v0 rfl rfl)
 obtain ⟨t0, rfl⟩ := O1 s0
 clear hA0 hA1 hval0 hsz0
 refine (Aa.calls ⟨_, Tryz.func6, by kernel_rfl, by kernel_rfl⟩ (Im hL )).mono fun e W' ⟨w', hh, hk, v, he, hv, hg⟩ => ?_
 subst he; subst hv
 exact ⟨_, rfl, L6 (tb := 4) (by kernel_rfl) rfl (by kernel_rfl) (by kernel_rfl) ⟨rfl, rfl, rfl⟩ (by decide +kernel) hW' (M1 hg hh hk)⟩
theorem Gk : Rows.ScriptForthSaid :=
 OpenClaim.holds_of_wide 6 Tryz.f6 rfl rfl rfl rfl rfl rfl rfl ⟨rfl, rfl, rfl, rfl, rfl⟩ rfl rfl rfl rfl rfl (by kernel_rfl) Tryz.func6 (by kernel_rfl)
  (of_decide_eq_true (by kernel_rfl)) (by unfold Func.isWrapper; first | (rw [if_pos (by decide +kernel)]; kernel_rfl) | (rw [if_neg (by decide +kernel)]; exact ⟨rfl, rfl⟩))
  (fun os started H enc _ => scriptForth_lifted os started H enc)
theorem scriptForth_card : Rows.ScriptForthCardSaid :=
 Claim7.holds_tied_plain_at .later [] [.data, .data, .data, .data, .sentinel, .sentinel, .pinned] true (true, "b64c46686f643c001f31f6c1b533c0d7c0642b988dd47f138c5c01a8a4cb7604") true Gk (fun _ h => by cases h) (by kernel_rfl) (fun _ h => by cases h) scriptForth_row_tie rfl ⟨rfl, rfl⟩ (by kernel_rfl) rfl
  (fun f fn hf hfn => by
   obtain rfl : f = 6 := Option.some.inj ((show Tryz.prog.funcNamed "reprise/repriselaw21.ScriptForth" = some 6 by kernel_rfl).symm.trans hf) |>.symm
   obtain rfl : fn = Tryz.f6 := (Option.some.inj (Tryz.func6.symm.trans hfn)).symm
   exact ⟨by kernel_rfl, fun j t ht => by
    rw [show Tryz.f6.params = #[9] from by kernel_rfl] at ht
    have hm : t ∈ [9] := by simpa using Array.mem_of_getElem? ht
    have hall : ([9].all fun u => !Tryz.prog.wantsStandIn u) = true := by kernel_rfl
    exact (show Tryz.prog.wantsStandIn t = false by simpa using List.all_eq_true.1 hall t hm)⟩)
  (by kernel_rfl)
end Go.Proofs.YtbmmaibbiahkkaaGreatDoor
