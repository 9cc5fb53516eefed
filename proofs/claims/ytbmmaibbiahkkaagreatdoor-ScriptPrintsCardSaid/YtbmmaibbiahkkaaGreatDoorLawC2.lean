/- ScriptPrints: what it computes. Conditions: none. -/
import Derived.Test.YtbmmaibbiahkkaaGreatDoorProg
import Derived.Test.YtbmmaibbiahkkaaGreatDoorScrN
import Derived.Test.YtbmmaibbiahkkaaGreatDoorScrZ
import Derived.Test.YtbmmaibbiahkkaaGreatDoorKindsP
import Derived.Test.YtbmmaibbiahkkaaGreatDoorRows
import Derived.Test.YtbmmaibbiahkkaaGreatDoorTie
import Derived.Test.YtbmmaibbiahkkaaGreatDoorCards
import Derived.SevenTiedAt
import Derived.Stop.Joined
namespace Go.Proofs.YtbmmaibbiahkkaaGreatDoor
open Go.Sx
set_option maxRecDepth 100000
set_option linter.unusedVariables false
set_option linter.unusedSimpArgs false
def sx4 (p_0 p_1 p_2 : Int) (p_3 : Option Addr) (p_3_n p_3_c : Nat) (p_4 p_5 p_6 p_7 : Int) (steps : Option Addr) (steps_n steps_c : Nat) (R : Ending → World → Prop) (w : World) : Prop :=
 ∀ w1, Grew w w1 → Aa Tryz.prog 10 [] w1 (RetR R fun u3 w2 => ∃ b4, u3 = .bool b4 ∧ ifB (!b4) (R (.returned (.bool false)) w2) (Aa Tryz.prog 15 [.agg #[.int .i64 p_0, .int .i64 p_1, .int .i64 p_2, .slice p_3 p_3_n p_3_c, .int .i64 p_4, .int .i64 p_5, .int .i64 p_6, .int .i64 p_7], .slice steps steps_n steps_c] w2 (RetR R fun u7 w6 => ∃ s8 n9, u7 = .tuple #[.string s8, .int .i64 n9] ∧ Aa Tryz.prog 16 [.agg #[.int .i64 p_0, .int .i64 p_1, .int .i64 p_2, .slice p_3 p_3_n p_3_c, .int .i64 p_4, .int .i64 p_5, .int .i64 p_6, .int .i64 p_7], .slice steps steps_n steps_c] w6 (RetR R fun u12 w11 => ∃ s13 n14, u12 = .tuple #[.string s13, .int .i64 n14] ∧ ∃ b16, Ae Tryz.prog (eqS .eql 9 (.tmp 23) (.tmp 24) (.string s8) (.string s13)) (.bool b16) ∧ ifB b16 (R (.returned (.bool (n9 == n14))) w11) (R (.returned (.bool false)) w11)))))
theorem sx4.ok {p_0 p_1 p_2 : Int} {p_3 : Option Addr} {p_3_n p_3_c : Nat} {p_4 p_5 p_6 p_7 : Int} {steps : Option Addr} {steps_n steps_c : Nat} {R : Ending → World → Prop} {w : World} (h : sx4 p_0 p_1 p_2 p_3 p_3_n p_3_c p_4 p_5 p_6 p_7 steps steps_n steps_c R w) : Aa Tryz.prog 4 [.agg #[.int .i64 p_0, .int .i64 p_1, .int .i64 p_2, .slice p_3 p_3_n p_3_c, .int .i64 p_4, .int .i64 p_5, .int .i64 p_6, .int .i64 p_7], .slice steps steps_n steps_c] w R :=
 okOf { locals := [2], pureTo := [25] } mix Tryz.func4 (by kernel_rfl) (by kernel_rfl) (by kernel_rfl) h
theorem Hc {p : ScrP} {steps : List Ai} {o : Sl3} {a : Option Addr} {n c : Nat} {w : World} (hG : Glob w) (hP : Lq w p o) (hr : Reads w Enc.stepE (a, n, c) steps) (hs : ∀ s ∈ steps, s.Fits) (hn : steps.length ≤ maxLen) (hb : steps.length * 40 ≤ 140737488351232) :
  Aa Tryz.prog 4 [Jc p o, .slice a n c] w (Rets fun v w' => v = .bool true ∧ Grew w w') := by
 obtain ⟨hp, ho, hpl, -⟩ := hP
 refine sx4.ok ?_
 unfold sx4
 intro w1 hg1
 refine (N7 (hG.grew hg1)).use fun v w2 ⟨hv, hg2⟩ => ?_
 subst hv
 have hg12 := hg1.trans hg2
 refine ⟨_, rfl, fun h => (by cases h), fun _ => (Kv (hG.grew hg12) hp hs (ho.grew hg12) (hr.grew hg12)).use fun v w6 ⟨hv, hg6⟩ => ?_⟩
 subst hv
 have hg16 := hg12.trans hg6
 have key : ∀ (t : L8) (e : Int), Gx (Be p steps) = .tuple #[.string (bs t), .int .i64 e] → ∃ s8 n9, Gx (Be p steps) = .tuple #[.string s8, .int .i64 n9] ∧ s8 = bs t ∧ n9 = e := fun t e h => ⟨_, _, h, rfl, rfl⟩
 obtain ⟨t, e, hte⟩ : ∃ t e, Gx (Be p steps) = .tuple #[.string (bs t), .int .i64 e] := by
  cases Be p steps <;> exact ⟨_, _, rfl⟩
 rw [hte]
 refine ⟨_, _, rfl, (Mw hp hs (ho.grew hg16) (hr.grew hg16)).use fun v w11 ⟨hv, hg11⟩ => ?_⟩
 subst hv
 rw [hte]
 refine ⟨_, _, rfl, _, B4, fun _ => ⟨_, rfl, by simp, hg16.trans hg11⟩, fun h => ?_⟩
 simp at h
open Go.ChangeShapes Go.WideShapes Go.ChangeAt Go.RowKit
set_option maxRecDepth 100000 in
theorem scriptPrints_lifted (os : Os) (started : os.Started) (H : Type) (enc : TypeId × Value → H) :
  ReturnsInHanded {} Tryz.checked os 4 .any (fun w args => (Rows.scriptPrintsSpec.pre enc Tryz.prog Tryz.f4 Rows.scriptPrintsRow.domain false w args ∧ laidMetH Tryz.prog Ip w) ∧ sizedMet enc Tryz.prog Tryz.f4 (OpenSpec.ofChange Rows.scriptPrintsSpec) false w args) (Rows.scriptPrintsSpec.post enc Tryz.prog Tryz.f4 false true false false) := by
 refine returnsInHanded_of_change_and (C := Tryz.checked) (X := fun w _ => laidMetH Tryz.prog Ip w) (fun _ _ _ hh h => h.of_heap hh) own started (by kernel_rfl) Tryz.func4
  (ChangeSpec.witness_shaped (enc := enc) (C := Tryz.checked) (os := os) (X := fun w _ => laidMetH Tryz.prog Ip w) false (World.laidAll Tryz.prog os Ip) #[.agg #[.int .i64 0, .int .i64 0, .int .i64 0, .slice none 0 0, .int .i64 0, .int .i64 0, .int .i64 0, .int .i64 0], .slice none 0 0] 8 (World.laidAll_os _ _ _)
   (World.shaped_of_ZipB (by kernel_rfl) (by kernel_rfl)) (by kernel_rfl) (by kernel_rfl) (by kernel_rfl) (Oe os _)) ?_
 intro W base args ds gs before hval0 hW hcnd hsz0 hL0 _
 have hL := O6 hL0
 have hval : ∀ (j : Nat) t v, Tryz.f4.params[j]? = some t → args[j]? = some v → Value.okWide Tryz.prog W .any base t v := hval0
 have hW' := hW
 obtain ⟨p, q, hA0, hV, rfl, hfz, hnd⟩ := hW
 have hA : DataW.TrodAll enc Tryz.prog W 0 (fun _ => true) true Tryz.f4.params.toList args.toList ds p := hA0
 have hsz : (DataW.weightsEach Tryz.prog (Tryz.f4.params.toList ++ _) (ds ++ gs)).all (· ≤ reachBytes) = true := hsz0
 rw [show Tryz.f4.params = #[25, 26] from by kernel_rfl] at hA hval hsz
 have hA1 := hA
 obtain ⟨v0, vs0, d0, ds0, p0, q0, hargs, rfl, rfl, h0, r0⟩ := trodAll_cons hA
 obtain ⟨v1, vs1, d1, ds1, p1, q1, rfl, rfl, rfl, h1, r1⟩ := trodAll_cons r0
 obtain ⟨rfl, rfl, rfl⟩ := trodAll_nil r1
 obtain rfl : args = #[v0, v1] := by cases args; simp_all
 obtain ⟨p0, o0, rfl, hp0⟩ := My (j := 0) hsz rfl rfl (hval 0 25 v0 rfl rfl) h0
 obtain ⟨a1, n1, c1, l1, rfl, hr1, hcl1, hn1, hb1⟩ := J8 (P := Tryz.prog) (t := 26) (e := 46) (Oo (e := 46) (j := 1) hsz rfl rfl (by kernel_rfl) (hval 1 26 v1 rfl rfl) h1) (by kernel_rfl) Kz (by kernel_rfl) (B := 40) (by kernel_rfl) (E := Enc.stepE) rfl Og
 clear hA0 hA1 hval0 hsz0
 refine (Aa.calls ⟨_, Tryz.func4, by kernel_rfl, by kernel_rfl⟩ (Hc hL hp0 hr1 hcl1 hn1 hb1)).mono fun e W' ⟨w', hh, hk, v, he, hv, hg⟩ => ?_
 subst he; subst hv
 exact ⟨_, rfl, Me (tb := 4) (by kernel_rfl) rfl (by kernel_rfl) (by kernel_rfl) ⟨rfl, rfl, rfl⟩ (by decide +kernel) hW' (M6 hg hh hk)⟩
theorem Fx : Rows.ScriptPrintsSaid :=
 OpenClaim.holds_of_wide 4 Tryz.f4 rfl rfl rfl rfl rfl rfl rfl ⟨rfl, rfl, rfl, rfl, rfl⟩ rfl rfl rfl rfl rfl (by kernel_rfl) Tryz.func4 (by kernel_rfl)
  (of_decide_eq_true (by kernel_rfl)) (by unfold Func.isWrapper; first | (rw [if_pos (by decide +kernel)]; kernel_rfl) | (rw [if_neg (by decide +kernel)]; exact ⟨rfl, rfl⟩))
  (fun os started H enc _ => scriptPrints_lifted os started H enc)
theorem scriptPrints_card : Rows.ScriptPrintsCardSaid :=
 Claim7.holds_tied_plain_at .later [] [.data, .data, .data, .data, .sentinel, .sentinel, .pinned] true (true, "b64c46686f643c001f31f6c1b533c0d7c0642b988dd47f138c5c01a8a4cb7604") true Fx (fun _ h => by cases h) (by kernel_rfl) (fun _ h => by cases h) scriptPrints_row_tie rfl ⟨rfl, rfl⟩ (by kernel_rfl) rfl
  (fun f fn hf hfn => by
   obtain rfl : f = 4 := Option.some.inj ((show Tryz.prog.funcNamed "reprise/repriselaw21.ScriptPrints" = some 4 by kernel_rfl).symm.trans hf) |>.symm
   obtain rfl : fn = Tryz.f4 := (Option.some.inj (Tryz.func4.symm.trans hfn)).symm
   exact ⟨by kernel_rfl, fun j t ht => by
    rw [show Tryz.f4.params = #[25, 26] from by kernel_rfl] at ht
    have hm : t ∈ [25, 26] := by simpa using Array.mem_of_getElem? ht
    have hall : ([25, 26].all fun u => !Tryz.prog.wantsStandIn u) = true := by kernel_rfl
    exact (show Tryz.prog.wantsStandIn t = false by simpa using List.all_eq_true.1 hall t hm)⟩)
  (by kernel_rfl)
end Go.Proofs.YtbmmaibbiahkkaaGreatDoor
