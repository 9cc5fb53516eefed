/- ScriptBack: what it computes. Conditions: none. -/
import Derived.Test.YtbmmaibbiahkkaaGreatDoorProg
import Derived.Test.YtbmmaibbiahkkaaGreatDoorScrN
import Derived.Test.YtbmmaibbiahkkaaGreatDoorKindsP
import Derived.Test.YtbmmaibbiahkkaaGreatDoorRows
import Derived.Test.YtbmmaibbiahkkaaGreatDoorTie
import Derived.Test.YtbmmaibbiahkkaaGreatDoorCards
import Derived.SevenTiedAt
import Derived.Stop.Joined
namespace Go.Proofs.YtbmmaibbiahkkaaGreatDoor
open Go.Sx
set_option maxRecDepth 100000
set_option linter.unusedVariables false
set_option linter.unusedSimpArgs false
def sx5 (d_0 d_1 d_2 : Int) (d_3 : Option Addr) (d_3_n d_3_c : Nat) (d_4 d_5 d_6 d_7 : Int) (i : Option Addr) (i_n i_c : Nat) (p2 : Int) (R : Ending → World → Prop) (w : World) : Prop :=
 ∀ w1, Grew w w1 → Aa Tryz.prog 10 [] w1 (RetR R fun u3 w2 => ∃ b4, u3 = .bool b4 ∧ ifB (!b4) (R (.returned (.bool false)) w2) (ifB (decide (((i_n : Nat) : Int) > 300)) (R (.returned (.bool true)) w2) (Aa Tryz.prog 15 [.agg #[.int .i64 d_0, .int .i64 d_1, .int .i64 d_2, .slice d_3 d_3_n d_3_c, .int .i64 d_4, .int .i64 d_5, .int .i64 d_6, .int .i64 d_7], .slice i i_n i_c] w2 (RetR R fun u7 w6 => ∃ s8 n9, u7 = .tuple #[.string s8, .int .i64 n9] ∧ ifB (n9 != 0) (∃ b11, Am Tryz.prog (eqS .eql 9 (.tmp 27) (.const (.string (ByteArray.mk (#[]) : ByteArray))) (.string s8) (.string (ByteArray.mk (#[]) : ByteArray))) (.bool b11) ∧ ifB b11 (ifB (n9 == 200) (R (.returned (.bool true)) w6) (ifB (n9 == 1) (R (.returned (.bool true)) w6) (R (.returned (.bool (n9 == 6))) w6))) (R (.returned (.bool false)) w6)) (Aa Tryz.prog 11 [.string s8] w6 (RetR R fun u13 w12 => ∃ n14 n15 n16 a17 l17 c17 n18 n19 n20 n21 a22 l22 c22 n23 n24, u13 = .tuple #[.agg #[.int .i64 n14, .int .i64 n15, .int .i64 n16, .slice a17 l17 c17, .int .i64 n18, .int .i64 n19, .int .i64 n20, .int .i64 n21], .slice a22 l22 c22, .int .i64 n23, .int .i64 n24] ∧ ∀ w26, Grew w12 w26 → ifB (n24 != 0) (R (.returned (.bool false)) w26) (ifB (n23 != 0) (R (.returned (.bool false)) w26) (Aa Tryz.prog 13 [.agg #[.int .i64 d_0, .int .i64 d_1, .int .i64 d_2, .slice d_3 d_3_n d_3_c, .int .i64 d_4, .int .i64 d_5, .int .i64 d_6, .int .i64 d_7], .agg #[.int .i64 n14, .int .i64 n15, .int .i64 n16, .slice a17 l17 c17, .int .i64 n18, .int .i64 n19, .int .i64 n20, .int .i64 n21]] w26 (RetR R fun u28 w27 => ∃ b29, u28 = .bool b29 ∧ ifB (!b29) (R (.returned (.bool false)) w27) (Aa Tryz.prog 14 [.slice a22 l22 c22, .slice i i_n i_c] w27 (RetR R fun u32 w31 => ∃ b33, u32 = .bool b33 ∧ ifB (!b33) (R (.returned (.bool false)) w31) (∀ n35 : Int, n35 = IntKind.i64.wrap (((i_n : Nat) : Int) + 1) → (((IntKind.u64.wrap n35) = 0 → R (.panicked (Kb Tryz.prog)) w31) ∧ ((IntKind.u64.wrap n35) ≠ 0 → ∀ n36 : Int, n36 = Int.tmod (IntKind.u64.wrap p2) (IntKind.u64.wrap n35) → ∀ w37, Grew w31 w37 → (0 ≤ IntKind.i64.wrap n36 ∧ IntKind.i64.wrap n36 ≤ (i_c : Nat)) ∧ Aa Tryz.prog 15 [.agg #[.int .i64 d_0, .int .i64 d_1, .int .i64 d_2, .slice d_3 d_3_n d_3_c, .int .i64 d_4, .int .i64 d_5, .int .i64 d_6, .int .i64 d_7], .slice i ((IntKind.i64.wrap n36).toNat) i_c] w37 (RetR R fun u39 w38 => ∃ s40 n41, u39 = .tuple #[.string s40, .int .i64 n41] ∧ ifB (n41 == 0) (ifB (decide (((ByteArray.size s40 : Nat) : Int) ≤ ((ByteArray.size s8 : Nat) : Int))) ((0 ≤ (((ByteArray.size s40 : Nat) : Int) : Int) ∧ (((ByteArray.size s40 : Nat) : Int) : Int) ≤ (ByteArray.size s8 : Nat)) ∧ ∃ b43, Am Tryz.prog (eqS .eql 9 (.tmp 95) (.tmp 96) (.string (ByteArray.extract s8 0 ((((ByteArray.size s40 : Nat) : Int) : Int).toNat))) (.string s40)) (.bool b43) ∧ R (.returned (.bool b43)) w38) (R (.returned (.bool false)) w38)) (R (.returned (.bool false)) w38))))))))))))))))
theorem sx5.ok {d_0 d_1 d_2 : Int} {d_3 : Option Addr} {d_3_n d_3_c : Nat} {d_4 d_5 d_6 d_7 : Int} {i : Option Addr} {i_n i_c : Nat} {p2 : Int} {R : Ending → World → Prop} {w : World} (h : sx5 d_0 d_1 d_2 d_3 d_3_n d_3_c d_4 d_5 d_6 d_7 i i_n i_c p2 R w) : Aa Tryz.prog 5 [.agg #[.int .i64 d_0, .int .i64 d_1, .int .i64 d_2, .slice d_3 d_3_n d_3_c, .int .i64 d_4, .int .i64 d_5, .int .i64 d_6, .int .i64 d_7], .slice i i_n i_c, .int .i64 p2] w R :=
 okOf { locals := [3, 9], pureTo := [28, 97], named := [70, 72], draws := [(12, { order := (ol [0,1,2,3,4,5,6,7,8,9] .nil), bars := [4] })] } mix Tryz.func5 (by kernel_rfl) (by kernel_rfl) (by kernel_rfl) h
theorem Iy {α : Type} {w : World} {E : Enc α} {a : Option Addr} {n c : Nat} {l : List α} (h : Reads w E (a, n, c) l) {k : Nat} (hk : k ≤ n) : Reads w E (a, k, c) (l.take k) := by
 have := h.cut (i := 0) (j := k) (Nat.zero_le _) hk
 have e : (if c = 0 then a else a.map fun x => x.add (0 * E.sz)) = a := by
  split
  ·rfl
  ·cases a with
   | none => rfl
   | some d => simp only [Option.map_some, Nat.zero_mul]; rfl
 rw [e] at this
 simpa using this
theorem Iz {p : ScrP} {steps : List Ag} {o : Sl3} {a : Option Addr} {n c : Nat} {cut : Int} {w : World} (hG : Glob w) (hP : L5 w p o) (hr : Reads w Enc.stepE (a, n, c) steps) (hs : ∀ s ∈ steps, s.Fits) (hnl : steps.length ≤ maxLen) (hb : steps.length * 40 ≤ 140737488351232) (hcut : (Lit.int .i64 cut).wf = true) :
  Aa Tryz.prog 5 [Ip p o, .slice a n c, .int .i64 cut] w (Rets fun v w' => v = .bool true ∧ Grew w w') := by
 obtain ⟨hp, ho, hpl, -⟩ := hP
 refine sx5.ok ?_
 unfold sx5
 have hn : n = steps.length := hr.2.1
 subst hn
 intro w1 hg1
 refine (O2 (hG.grew hg1)).use fun v w2 ⟨hv, hg2⟩ => ?_
 subst hv
 have hg12 := hg1.trans hg2
 refine ⟨_, rfl, fun h => (by cases h), fun _ => ⟨fun _ => ⟨_, rfl, rfl, hg12⟩, fun h300 => (Iq (hG.grew hg12) hp hs (ho.grew hg12) (hr.grew hg12)).use fun v w6 ⟨hv, hg6⟩ => ?_⟩⟩
 simp only [gt_iff_lt, decide_eq_false_iff_not] at h300
 have hg16 := hg12.trans hg6
 cases hpr : Be p steps with
 | error e =>
  rw [hpr] at hv
  subst hv
  have he := Ng hpr
  refine ⟨_, _, rfl, fun _ => ⟨_, Fg (a := []) (b := []), fun _ => ⟨fun _ => ⟨_, rfl, rfl, hg16⟩, fun h1 => ⟨fun _ => ⟨_, rfl, rfl, hg16⟩, fun h2 => ⟨_, rfl, ?_, hg16⟩⟩⟩, fun h => ?_⟩, fun h => ?_⟩
  ·simp only [beq_eq_false_iff_ne] at h1 h2
   rcases he with ⟨-, h⟩ | h | h | h
   ·omega
   ·exact absurd h h1
   ·exact absurd h h2
   ·rw [h]; rfl
  ·simp at h
  ·have : e = 0 := by simpa using h
   omega
 | ok t =>
  rw [hpr] at hv
  subst hv
  refine ⟨_, _, rfl, fun h => (by cases h), fun _ => (Gl (t := t) (hG.grew hg16)).use fun v w12 ⟨hv, hg12'⟩ => ?_⟩
  rw [back hp hs hpr] at hv
  obtain ⟨o', s', rfl, ho', hs'⟩ := Fa hv
  have hgA := hg16.trans hg12'
  refine ⟨_, _, _, _, _, _, _, _, _, _, _, _, _, _, _, rfl, fun w26 hg26 => ⟨fun h => (by cases h), fun _ => ⟨fun h => (by cases h), fun _ => (Ox (ho.grew (hgA.trans hg26)) (ho'.reads.grew hg26) hpl).use fun v w27 ⟨hv, hg27⟩ => ?_⟩⟩⟩
  subst hv
  have hgB := hgA.trans (hg26.trans hg27)
  refine ⟨_, rfl, fun h => ?_, fun _ => (Mp (hs'.reads.grew (hg26.trans hg27)) (hr.grew hgB) (by have := hs'.le; have := hs'.len; omega)).use fun v w31 ⟨hv, hg31⟩ => ?_⟩
  ·simp [pP] at h
  subst hv
  refine ⟨_, rfl, fun h => ?_, fun _ => ?_⟩
  ·simp [pL] at h
  have hgC := hgB.trans hg31
  rintro n35 rfl
  have e1 : IntKind.i64.wrap (((steps.length : Nat) : Int) + 1) = ((steps.length + 1 : Nat) : Int) := by rw [IntKind.wrap_i64]; omega
  have e2 : IntKind.u64.wrap ((steps.length + 1 : Nat) : Int) = ((steps.length + 1 : Nat) : Int) := by rw [IntKind.wrap_u64]; omega
  rw [e1, e2]
  refine ⟨fun hz => (by omega), fun _ => ?_⟩
  rintro n36 rfl w37 hg37
  have hgD := hgC.trans hg37
  obtain ⟨k, hk, hkl⟩ : ∃ k : Nat, IntKind.i64.wrap (Int.tmod (IntKind.u64.wrap cut) ((steps.length + 1 : Nat) : Int)) = (k : Int) ∧ k ≤ steps.length := by
   have h0 : 0 ≤ IntKind.u64.wrap cut := by rw [IntKind.wrap_u64]; omega
   generalize IntKind.u64.wrap cut = u at h0
   rw [Int.tmod_eq_emod_of_nonneg h0]
   have h1 := Int.emod_nonneg u (b := ((steps.length + 1 : Nat) : Int)) (by omega)
   have h2 := Int.emod_lt_of_pos u (b := ((steps.length + 1 : Nat) : Int)) (by omega)
   generalize u % ((steps.length + 1 : Nat) : Int) = z at h1 h2
   exact ⟨z.toNat, by rw [IntKind.wrap_i64]; omega, by omega⟩
  rw [hk, Int.toNat_natCast]
  have hc : steps.length ≤ c := hr.2.2.2
  refine ⟨⟨by omega, by omega⟩, (Iq (hG.grew hgD) hp (fun s h => hs s (List.mem_of_mem_take h)) (ho.grew hgD) ((Iy hr hkl).grew hgD)).use fun v w38 ⟨hv, hg38⟩ => ?_⟩
  obtain ⟨u, hu, hut⟩ := L4 hpr k
  rw [hu] at hv
  subst hv
  have hul := hut.length_le
  refine ⟨_, _, rfl, fun _ => ⟨fun _ => ⟨⟨by omega, by rw [As, As]; omega⟩, ?_⟩, fun h => ?_⟩, fun h => (by cases h)⟩
  ·rw [As, Int.toNat_natCast, H9, List.drop_zero, ← List.prefix_iff_eq_take.1 hut]
   exact ⟨_, Fg, _, rfl, by simp, hgD.trans hg38⟩
  ·rw [As, As] at h
   simp only [decide_eq_false_iff_not] at h
   omega
open Go.ChangeShapes Go.WideShapes Go.ChangeAt Go.RowKit
set_option maxRecDepth 100000 in
theorem scriptBack_lifted (os : Os) (started : os.Started) (H : Type) (enc : TypeId × Value → H) :
  ReturnsInHanded {} Tryz.checked os 5 .any (fun w args => (Rows.scriptBackSpec.pre enc Tryz.prog Tryz.f5 Rows.scriptBackRow.domain false w args ∧ laidMetH Tryz.prog Is w) ∧ sizedMet enc Tryz.prog Tryz.f5 (OpenSpec.ofChange Rows.scriptBackSpec) false w args) (Rows.scriptBackSpec.post enc Tryz.prog Tryz.f5 false true false false) := by
 refine returnsInHanded_of_change_and (C := Tryz.checked) (X := fun w _ => laidMetH Tryz.prog Is w) (fun _ _ _ hh h => h.of_heap hh) own started (by kernel_rfl) Tryz.func5
  (ChangeSpec.witness_shaped (enc := enc) (C := Tryz.checked) (os := os) (X := fun w _ => laidMetH Tryz.prog Is w) false (World.laidAll Tryz.prog os Is) #[.agg #[.int .i64 0, .int .i64 0, .int .i64 0, .slice none 0 0, .int .i64 0, .int .i64 0, .int .i64 0, .int .i64 0], .slice none 0 0, .int .i64 0] 8 (World.laidAll_os _ _ _)
   (World.shaped_of_ZipB (by kernel_rfl) (by kernel_rfl)) (by kernel_rfl) (by kernel_rfl) (by kernel_rfl) (O3 os _)) ?_
 intro W base args ds gs before hval0 hW hcnd hsz0 hL0 _
 have hL := Pt hL0
 have hval : ∀ (j : Nat) t v, Tryz.f5.params[j]? = some t → args[j]? = some v → Value.okWide Tryz.prog W .any base t v := hval0
 have hW' := hW
 obtain ⟨p, q, hA0, hV, rfl, hfz, hnd⟩ := hW
 have hA : DataW.TrodAll enc Tryz.prog W 0 (fun _ => true) true Tryz.f5.params.toList args.toList ds p := hA0
 have hsz : (DataW.weightsEach Tryz.prog (Tryz.f5.params.toList ++ _) (ds ++ gs)).all (· ≤ reachBytes) = true := hsz0
 rw [show Tryz.f5.params = #[25, 26, 3] from by kernel_rfl] at hA hval hsz
 have hA1 := hA
 obtain ⟨v0, vs0, d0, ds0, p0, q0, hargs, rfl, rfl, h0, r0⟩ := trodAll_cons hA
 obtain ⟨v1, vs1, d1, ds1, p1, q1, rfl, rfl, rfl, h1, r1⟩ := trodAll_cons r0
 obtain ⟨v2, vs2, d2, ds2, p2, q2, rfl, rfl, rfl, h2, r2⟩ := trodAll_cons r1
 obtain ⟨rfl, rfl, rfl⟩ := trodAll_nil r2
 obtain rfl : args = #[v0, v1, v2] := by cases args; simp_all
 obtain ⟨p0, o0, rfl, hp0⟩ := Ni (j := 0) hsz rfl rfl (hval 0 25 v0 rfl rfl) h0
 obtain ⟨a1, n1, c1, l1, rfl, hr1, hcl1, hn1, hb1⟩ := Km (P := Tryz.prog) (t := 26) (e := 46) (Pe (e := 46) (j := 1) hsz rfl rfl (by kernel_rfl) (hval 1 26 v1 rfl rfl) h1) (by kernel_rfl) Lb (by kernel_rfl) (B := 40) (by kernel_rfl) (E := Enc.stepE) rfl O5
 obtain ⟨x2, rfl, hcl2⟩ := Go.Sx.open_int (P := Tryz.prog) (k := .i64) (t := 3) (by kernel_rfl) (hval 2 3 v2 rfl rfl) h2
 clear hA0 hA1 hval0 hsz0
 refine (Aa.calls ⟨_, Tryz.func5, by kernel_rfl, by kernel_rfl⟩ (Iz hL hp0 hr1 hcl1 hn1 hb1 hcl2)).mono fun e W' ⟨w', hh, hk, v, he, hv, hg⟩ => ?_
 subst he; subst hv
 exact ⟨_, rfl, Ms (tb := 4) (by kernel_rfl) rfl (by kernel_rfl) (by kernel_rfl) ⟨rfl, rfl, rfl⟩ (by decide +kernel) hW' (Nq hg hh hk)⟩
theorem Gy : Rows.ScriptBackSaid :=
 OpenClaim.holds_of_wide 5 Tryz.f5 rfl rfl rfl rfl rfl rfl rfl ⟨rfl, rfl, rfl, rfl, rfl⟩ rfl rfl rfl rfl rfl (by kernel_rfl) Tryz.func5 (by kernel_rfl)
  (of_decide_eq_true (by kernel_rfl)) (by unfold Func.isWrapper; first | (rw [if_pos (by decide +kernel)]; kernel_rfl) | (rw [if_neg (by decide +kernel)]; exact ⟨rfl, rfl⟩))
  (fun os started H enc _ => scriptBack_lifted os started H enc)
theorem scriptBack_card : Rows.ScriptBackCardSaid :=
 Claim7.holds_tied_plain_at .later [] [.data, .data, .data, .data, .sentinel, .sentinel, .pinned] true (true, "b64c46686f643c001f31f6c1b533c0d7c0642b988dd47f138c5c01a8a4cb7604") true Gy (fun _ h => by cases h) (by kernel_rfl) (fun _ h => by cases h) scriptBack_row_tie rfl ⟨rfl, rfl⟩ (by kernel_rfl) rfl
  (fun f fn hf hfn => by
   obtain rfl : f = 5 := Option.some.inj ((show Tryz.prog.funcNamed "reprise/repriselaw21.ScriptBack" = some 5 by kernel_rfl).symm.trans hf) |>.symm
   obtain rfl : fn = Tryz.f5 := (Option.some.inj (Tryz.func5.symm.trans hfn)).symm
   exact ⟨by kernel_rfl, fun j t ht => by
    rw [show Tryz.f5.params = #[25, 26, 3] from by kernel_rfl] at ht
    have hm : t ∈ [25, 26, 3] := by simpa using Array.mem_of_getElem? ht
    have hall : ([25, 26, 3].all fun u => !Tryz.prog.wantsStandIn u) = true := by kernel_rfl
    exact (show Tryz.prog.wantsStandIn t = false by simpa using List.all_eq_true.1 hall t hm)⟩)
  (by kernel_rfl)
end Go.Proofs.YtbmmaibbiahkkaaGreatDoor
