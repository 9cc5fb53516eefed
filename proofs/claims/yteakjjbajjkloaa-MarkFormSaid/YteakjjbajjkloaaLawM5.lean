/- MarkForm: what it computes, and its row. Conditions: none. -/
import Derived.Test.YteakjjbajjkloaaProg
import Derived.Test.YteakjjbajjkloaaMarkA
import Derived.Test.YteakjjbajjkloaaRows
namespace Go.Proofs.Yteakjjbajjkloaa
open Go.Sx
set_option maxRecDepth 100000
set_option linter.unusedVariables false
set_option linter.unusedSimpArgs false
/- reprise/repriselaw12.MarkForm -/
def sx7 (d : Option Addr) (d_n d_c : Nat) (i_0 : Int) (i_1 : Int) (i_2 : Option Addr) (i_2_n i_2_c : Nat) (R : Ending → World → Prop) (w : World) : Prop :=
  ∀ w1, Grew w w1 → CallsW Try.prog 11 [] w1 (RetR R fun u3 w2 => ∃ (b4 : Bool), u3 = .bool b4 ∧ (((!b4) = true → R (.returned (.bool false)) w2) ∧ ((!b4) = false → CallsW Try.prog 16 [.slice d d_n d_c] w2 (RetR R fun u7 w6
    => ∃ (n8 : Int) (n9 : Int) (a10 : Option Addr) (l10 c10 : Nat) (n11 : Int), u7 = .tuple #[.agg #[.int .i64 n8, .int .i64 n9, .slice a10 l10 c10], .int .i64 n11] ∧ ∀ w13, Grew w6 w13 → ∃ (J14 : World → Prop), ((((n11
    == 0) = true → CallsW Try.prog 12 [.agg #[.int .i64 n8, .int .i64 n9, .slice a10 l10 c10]] w13 (RetR R fun u16 w15 => ∃ (a17 : Option Addr) (l17 c17 : Nat) (n18 : Int), u16 = .tuple #[.slice a17 l17 c17, .int .i64
    n18] ∧ (((n18 != 0) = true → R (.returned (.bool false)) w15) ∧ ((n18 != 0) = false → SemW Try.prog (convert 26 9 (.slice a17 l17 c17)) (fun u21 w20 => ∃ (s22 : ByteArray), u21 = .string s22 ∧ SemW Try.prog (convert
    26 9 (.slice d d_n d_c)) (fun u24 w23 => ∃ (s25 : ByteArray), u24 = .string s25 ∧ ∃ (b26 : Bool), PureTo Try.prog (eqS .neq 9 (.tmp 30) (.tmp 32) (.string s22) (.string s25)) (.bool b26) ∧ ((b26 = true → R (.returned
    (.bool false)) w23) ∧ (b26 = false → CallsW Try.prog 14 [.agg #[.int .i64 n8, .int .i64 n9, .slice a10 l10 c10]] w23 (RetR R fun u28 w27 => ∃ (b29 : Bool), u28 = .bool b29 ∧ (((!b29) = true → R (.returned (.bool
    false)) w27) ∧ ((!b29) = false → J14 w27)))))) w20) w15)))) ∧ ((n11 == 0) = false → J14 w13))) ∧ ∀  (w31 : World), J14 w31 → CallsW Try.prog 12 [.agg #[.int .i64 i_0, .int .i64 i_1, .slice i_2 i_2_n i_2_c]] w31 (RetR
    R fun u33 w32 => ∃ (a34 : Option Addr) (l34 c34 : Nat) (n35 : Int), u33 = .tuple #[.slice a34 l34 c34, .int .i64 n35] ∧ (((n35 != 0) = true → (((n35 == 1) = true → (((((l34 : Nat) : Int) == 0) = true → CallsW Try.prog
    14 [.agg #[.int .i64 i_0, .int .i64 i_1, .slice i_2 i_2_n i_2_c]] w32 (RetR R fun u38 w37 => ∃ (b39 : Bool), u38 = .bool b39 ∧ R (.returned (.bool (!b39))) w37)) ∧ ((((l34 : Nat) : Int) == 0) = false → R (.returned
    (.bool false)) w32))) ∧ ((n35 == 1) = false → R (.returned (.bool false)) w32))) ∧ ((n35 != 0) = false → CallsW Try.prog 16 [.slice a34 l34 c34] w32 (RetR R fun u42 w41 => ∃ (n43 : Int) (n44 : Int) (a45 : Option Addr)
    (l45 c45 : Nat) (n46 : Int), u42 = .tuple #[.agg #[.int .i64 n43, .int .i64 n44, .slice a45 l45 c45], .int .i64 n46] ∧ (((n46 != 0) = true → R (.returned (.bool false)) w41) ∧ ((n46 != 0) = false → CallsW Try.prog 18
    [.agg #[.int .i64 n43, .int .i64 n44, .slice a45 l45 c45], .agg #[.int .i64 i_0, .int .i64 i_1, .slice i_2 i_2_n i_2_c]] w41 (RetR R fun u49 w48 => ∃ (b50 : Bool), u49 = .bool b50 ∧ (((!b50) = true → R (.returned
    (.bool false)) w48) ∧ ((!b50) = false → (((decide (((l34 : Nat) : Int) > 1024)) = true → R (.returned (.bool false)) w48) ∧ ((decide (((l34 : Nat) : Int) > 1024)) = false → ∃ (I52 : Int → World → Prop) (m52 : Int →
    World → Nat), I52 0 w48 ∧ ∀ (n53 : Int) (w54 : World), I52 n53 w54 → (((decide (n53 < ((l34 : Nat) : Int))) = true → (0 ≤ n53 ∧ n53 ≤ (c34 : Nat)) ∧ CallsW Try.prog 16 [.slice a34 n53.toNat c34] w54 (RetR R fun u56
    w55 => ∃ (n57 : Int) (n58 : Int) (a59 : Option Addr) (l59 c59 : Nat) (n60 : Int), u56 = .tuple #[.agg #[.int .i64 n57, .int .i64 n58, .slice a59 l59 c59], .int .i64 n60] ∧ (((n60 != 3) = true → R (.returned (.bool
    false)) w55) ∧ ((n60 != 3) = false → (I52 (IntKind.i64.wrap (n53 + 1)) w55 ∧ m52 (IntKind.i64.wrap (n53 + 1)) w55 < m52 n53 w54))))) ∧ ((decide (n53 < ((l34 : Nat) : Int))) = false → ∀ (b62 : Nat) (w63 : World), Alloc
    w54 w63 b62 (.cells #[] 5) → SemW Try.prog (Builtin.append_ #[26, 26] 26 #[.slice (some ⟨b62, 0, none⟩) 0 0, .slice a34 l34 c34]) (fun u65 w64 => ∃ (a66 : Option Addr) (l66 c66 : Nat), u65 = .slice a66 l66 c66 ∧ ∀
    (b67 : Nat) (w68 : World), Alloc w64 w68 b67 (.cells #[.int .u8 0] 5) → SemW Try.prog (Builtin.append_ #[26, 26] 26 #[.slice a66 l66 c66, .slice (some ⟨b67, 0, none⟩) 1 1]) (fun u70 w69 => ∃ (a71 : Option Addr) (l71
    c71 : Nat), u70 = .slice a71 l71 c71 ∧ CallsW Try.prog 16 [.slice a71 l71 c71] w69 (RetR R fun u73 w72 => ∃ (n74 : Int) (n75 : Int) (a76 : Option Addr) (l76 c76 : Nat) (n77 : Int), u73 = .tuple #[.agg #[.int .i64 n74,
    .int .i64 n75, .slice a76 l76 c76], .int .i64 n77] ∧ R (.returned (.bool (n77 == 5))) w72)) w68) w63)))))))))))))))))
theorem sx7.ok {d : Option Addr} {d_n d_c : Nat} {i_0 : Int} {i_1 : Int} {i_2 : Option Addr} {i_2_n i_2_c : Nat} {R : Ending → World → Prop} {w : World} (h : sx7 d d_n d_c i_0 i_1 i_2 i_2_n i_2_c R w) : CallsW Try.prog 7 [.slice d d_n d_c, .agg #[.int .i64 i_0, .int .i64 i_1, .slice i_2 i_2_n i_2_c]] w R :=
  callsW_of mix Try.func7 (by kernel_rfl) (by kernel_rfl) (Eq.mpr (by kernel_rfl : denFn Try.prog { locals := [3, 5], pureTo := [33], sem := [30, 32, 95, 97], loops := [(15, { slots := [(11, .int .i64)], cells := [] })], cuts := [(8, { slots := [], cells := [] })] } Try.f7 [.slice d d_n d_c, .agg #[.int .i64 i_0, .int .i64 i_1, .slice i_2 i_2_n i_2_c]] R w = sx7 d d_n d_c i_0 i_1 i_2 i_2_n i_2_c R w) h)


theorem MarkForm_ok {a0 a : Option Addr} {n0 c0 n c : Nat} {lb : List Int} {m : MarkV} {w : World} (hr0 : Reads w (Enc.int .u8) (a0, n0, c0) lb) (hb0 : ∀ x ∈ lb, 0 ≤ x ∧ x < 256) (hn0 : lb.length ≤ maxLen) (hbl : lb.length * 1 ≤ 140737488351232)
    (hr : Reads w (Enc.int .u64) (a, n, c) m.keys) (hf : m.Fits) (hl : m.keys.length ≤ maxLen) (hb : m.keys.length * 8 ≤ 140737488351232) :
    CallsW Try.prog 7 [.slice a0 n0 c0, mval m a n c] w (Rets fun v w' => v = .bool true ∧ Grew w w') := by
  refine sx7.ok ?_
  unfold sx7
  have hlen : m.keys.length ≤ 9223372036854775806 := by omega
  intro w1 hg1
  refine awakeM_ok.use fun v w2 ⟨hv, hg2⟩ => ?_
  subst hv
  have hg2 := hg1.trans hg2
  refine ⟨_, rfl, fun h => (by cases h), fun _ => ?_⟩
  have hr2 := hr0.grew hg2
  refine (MDecode_ok hr2 hb0 (by omega) (low8 hr2)).use fun v w6 ⟨a10, l10, c10, hv, ho6, hg6⟩ => ?_
  subst hv
  refine ⟨_, _, _, _, _, _, rfl, fun w13 hg13 => ?_⟩
  have hg13' := hg2.trans (hg6.trans hg13)
  refine ⟨fun w' => Grew w w', ⟨fun he => ?_, fun _ => hg13'⟩, fun w31 hg31 => ?_⟩
  · have he' : (decodeM lb).2 = 0 := by simpa using he
    obtain ⟨hby, hso, hke⟩ := decodeM_back hb0 he'
    have hkl : (decodeM lb).1.keys.length ≤ 64 := (soundM_ok hso hke).2.2.1
    have ho13 := ho6.grew hg13
    refine (MEncode_ok (m := (decodeM lb).1) ho13.reads hke (by omega)).use fun v w15 ⟨a17, l17, c17, hv, ho15, hg15⟩ => ?_
    subst hv
    have henc : encodeM (decodeM lb).1 = (lb, 0) := by rw [encodeM, if_pos hso, hby]
    rw [henc] at ho15 ⊢
    refine ⟨_, _, _, _, rfl, fun h => (by simp at h), fun _ => ?_⟩
    refine conv_str (e := 5) (by kernel_rfl) (by kernel_rfl) (by kernel_rfl) ho15.reads ⟨_, rfl, conv_str (e := 5) (by kernel_rfl) (by kernel_rfl) (by kernel_rfl) ((hr0.grew hg13').grew hg15) ⟨_, rfl, _, eqS_strNe, fun h => (by rw [beq_toListBytes] at h; simp at h), fun _ => ?_⟩⟩
    refine (Sound_ok (m := (decodeM lb).1) (ho13.grew hg15).reads (by omega)).use fun v w27 ⟨hv, hg27⟩ => ?_
    subst hv
    rw [hso]
    exact ⟨_, rfl, fun h => (by cases h), fun _ => hg13'.trans (hg15.trans hg27)⟩
  refine (MEncode_ok (hr.grew hg31) hf.ks hlen).use fun v w32 ⟨a34, l34, c34, hv, ho32, hg32⟩ => ?_
  subst hv
  have hg32' := hg31.trans hg32
  have hl34 := ho32.len
  refine ⟨_, _, _, _, rfl, fun he => ?_, fun he => ?_⟩
  · have hns : soundM m = false := by
      cases hs : soundM m with
      | false => rfl
      | true => exfalso; rw [encodeM, if_pos hs] at he; simp at he
    rw [encodeM, if_neg (by rw [hns]; simp)] at hl34 ⊢
    simp only [List.length_nil] at hl34
    subst hl34
    refine ⟨fun _ => ⟨fun _ => ?_, fun h => (by simp at h)⟩, fun h => (by simp at h)⟩
    refine (Sound_ok (hr.grew hg32') hlen).use fun v w37 ⟨hv, hg37⟩ => ?_
    subst hv
    exact ⟨_, rfl, _, rfl, by rw [hns]; rfl, hg32'.trans hg37⟩
  have hs : soundM m = true := by
    cases hs : soundM m with
    | true => rfl
    | false => exfalso; rw [encodeM, if_neg (by rw [hs]; simp)] at he; simp at he
  have henc : encodeM m = (bytesM m, 0) := by rw [encodeM, if_pos hs]
  rw [henc] at ho32 hl34
  have hbm := bytesM_bytes hs hf.ks
  have hbl := bytesM_len hs hf.ks
  have hdec : decodeM (bytesM m) = (m, 0) := by have := decodeM_fwd hs hf.ks []; simpa using this
  simp only at ho32 hl34
  refine (MDecode_ok ho32.reads hbm (by omega) (low8 ho32.reads)).use fun v w41 ⟨a45, l45, c45, hv, ho41, hg41⟩ => ?_
  subst hv
  rw [hdec] at ho41 ⊢
  have hg41' := hg32'.trans hg41
  refine ⟨_, _, _, _, _, _, rfl, fun h => (by simp at h), fun _ => ?_⟩
  refine (sameMark_ok (m := m) (k := m) ho41.reads (hr.grew hg41') hlen).use fun v w48 ⟨hv, hg48⟩ => ?_
  subst hv
  rw [sameM_refl]
  have hg48' := hg41'.trans hg48
  refine ⟨_, rfl, fun h => (by cases h), fun _ => ⟨fun h => (by simp only [decide_eq_true_eq] at h; omega), fun _ => ?_⟩⟩
  have ho48 := (ho32.grew hg41).grew hg48
  refine ⟨fun i w' => ∃ k : Nat, i = k ∧ k ≤ l34 ∧ Grew w48 w', fun i _ => l34 - i.toNat, ⟨0, rfl, Nat.zero_le _, Grew.refl _⟩, ?_⟩
  rintro i w54 ⟨k, rfl, hk, hg54⟩
  have ho54 := ho48.grew hg54
  refine ⟨fun hlt => ?_, fun hge b62 w63 hal => ?_⟩
  · simp only [decide_eq_true_eq] at hlt
    have hcap := ho54.le
    refine ⟨by omega, ?_⟩
    simp only [Int.toNat_natCast]
    have htk := (ho54.take (k := k) (by omega)).reads
    refine (MDecode_ok htk (hbm.take k) (by simp; omega) (low8 htk)).use fun v w55 ⟨a59, l59, c59, hv, ho55, hg55⟩ => ?_
    subst hv
    rw [decodeM_cut hs hf.ks (by omega)]
    have hw : IntKind.i64.wrap ((k : Int) + 1) = ((k + 1 : Nat) : Int) := by rw [IntKind.wrap_i64]; omega
    rw [hw]
    exact ⟨_, _, _, _, _, _, rfl, fun h => (by simp at h), fun _ => ⟨⟨k + 1, rfl, by omega, hg54.trans hg55⟩, by show l34 - (((k + 1 : Nat) : Int)).toNat < l34 - ((k : Int)).toNat; omega⟩⟩
  · have ho63 := Own.alloc (E := Enc.int .u8) (l := []) hal (Nat.le_refl _) rfl (by decide)
    have hg63 := hg48'.trans (hg54.trans hal.grew)
    refine pushR_ok (w0 := w) (ho63.base (hg48'.trans hg54).size) hg63 (ho54.grew hal.grew).reads (Grew.refl _) (by simp; omega) ?_
    intro a66 l66 c66 w64 ho64 hg64
    refine ⟨_, _, _, rfl, fun b67 w68 hal68 => ?_⟩
    refine push_new ho64 hg64 hal68 (by simp; omega) ?_
    intro a71 l71 c71 w69 ho69 hg69
    rw [List.nil_append] at ho69
    have hbt : Bytes (bytesM m ++ [0]) := hbm.append (fun c hc => (by simp at hc; omega))
    refine ⟨_, _, _, rfl, (MDecode_ok ho69.reads hbt (by simp; omega) (low8 ho69.reads)).use fun v w72 ⟨a76, l76, c76, hv, ho72, hg72⟩ => ?_⟩
    subst hv
    have hd5 : decodeM (bytesM m ++ [0]) = (mark0, 5) := by rw [decodeM_fwd hs hf.ks [0], if_neg (by simp)]
    rw [hd5]
    exact ⟨_, _, _, _, _, _, rfl, _, rfl, by simp, hg69.trans hg72⟩

open Go.ChangeShapes Go.WideShapes Go.ChangeAt Go.RowKit
set_option maxRecDepth 100000 in
theorem markForm_lifted (os : Os) (started : os.Started) (H : Type) (enc : TypeId × Value → H) :
    ReturnsInHanded {} Try.checked os 7 .any (Rows.markFormSpec.pre6 enc Try.prog Try.f7 Rows.markFormRow.domain false) (Rows.markFormSpec.post enc Try.prog Try.f7 false true false false) := by
  refine returnsInHanded_of_change_sized (C := Try.checked) (by kernel_rfl) started (by kernel_rfl) Try.func7
    (ChangeSpec.witness6 (enc := enc) (C := Try.checked) false ⟨#[], #[.slice none 0 0, .agg #[.int .i64 0, .int .i64 0, .slice none 0 0]], []⟩ 8 (by kernel_rfl) (by kernel_rfl) (by kernel_rfl) (by kernel_rfl)) ?_
  intro W base args ds gs before hval0 hW hcnd hsz0 _
  have hval : ∀ (j : Nat) t v, Try.f7.params[j]? = some t → args[j]? = some v → Value.okWide Try.prog W .any base t v := hval0
  have hW' := hW
  obtain ⟨p, q, hA0, hV, rfl, hfz, hnd⟩ := hW
  have hA : DataW.TrodAll enc Try.prog W 0 (fun _ => true) true Try.f7.params.toList args.toList ds p := hA0
  have hsz : (DataW.weightsEach Try.prog (Try.f7.params.toList ++ _) (ds ++ gs)).all (· ≤ reachBytes) = true := hsz0
  rw [show Try.f7.params = #[26, 24] from by kernel_rfl] at hA hval hsz
  have hA1 := hA
  obtain ⟨v0, vs0, d0, ds0, p0, q0, hargs, rfl, rfl, h0, r0⟩ := trodAll_cons hA
  obtain ⟨v1, vs1, d1, ds1, p1, q1, rfl, rfl, rfl, h1, r1⟩ := trodAll_cons r0
  obtain ⟨rfl, rfl, rfl⟩ := trodAll_nil r1
  obtain rfl : args = #[v0, v1] := by cases args; simp_all
  obtain ⟨a0, n0, c0, l0, rfl, hr0, hcl0, hn0, hb0⟩ := open_sub (P := Try.prog) (t := 26) (e := 5) (arg_sub (e := 5) (j := 0) hsz rfl rfl (by kernel_rfl) (hval 0 26 v0 rfl rfl) h0) (by kernel_rfl) u8_kinds (by kernel_rfl) (B := 1) (by kernel_rfl) (E := enc8) rfl u8_of
  obtain ⟨m1, a1, n1, c1, rfl, hr1, hf1, hl1, hb1⟩ := openMark (j := 1) hsz rfl rfl (hval 1 24 v1 rfl rfl) h1
  clear hA0 hA1 hval0 hsz0
  refine (CallsW.calls ⟨_, Try.func7, by kernel_rfl, by kernel_rfl⟩ (MarkForm_ok hr0 hcl0 hn0 hb0 hr1 hf1 hl1 hb1)).mono fun e W' ⟨w', hh, hk, v, he, hv, hg⟩ => ?_
  subst he; subst hv
  exact ⟨_, rfl, post_true (tb := 4) (by kernel_rfl) rfl (by kernel_rfl) (by kernel_rfl) ⟨rfl, rfl, rfl⟩ (by decide +kernel) hW' (below_of hg hh hk)⟩

theorem markForm_holds : Rows.MarkFormSaid :=
  OpenClaim.holds_of_wide 7 Try.f7 rfl rfl rfl rfl rfl rfl rfl ⟨rfl, rfl, rfl, rfl, rfl⟩ rfl rfl rfl rfl rfl (by kernel_rfl) Try.func7 (by kernel_rfl)
    (of_decide_eq_true (by kernel_rfl)) (by unfold Func.isWrapper; first | (rw [if_pos (by decide +kernel)]; kernel_rfl) | (rw [if_neg (by decide +kernel)]; exact ⟨rfl, rfl⟩))
    (fun os started H enc _ => markForm_lifted os started H enc)
end Go.Proofs.Yteakjjbajjkloaa
