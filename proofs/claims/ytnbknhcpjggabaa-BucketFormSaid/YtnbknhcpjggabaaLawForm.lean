/- BucketForm: what it computes, and its row. Conditions: none. -/
import Derived.Test.YtnbknhcpjggabaaProg
import Derived.Test.YtnbknhcpjggabaaRef4
import Derived.Test.YtnbknhcpjggabaaKindsC
import Derived.Test.YtnbknhcpjggabaaSxT
import Derived.Test.YtnbknhcpjggabaaRows
namespace Go.Proofs.Ytnbknhcpjggabaa
open Go.Sx
set_option maxRecDepth 100000
set_option linter.unusedVariables false
set_option linter.unusedSimpArgs false
/- reprise/repriselaw11.BucketForm -/
def sx6 (d : Option Addr) (d_n d_c : Nat) (i : Option Addr) (i_n i_c : Nat) (R : Ending → World → Prop) (w : World) : Prop :=
  CallsW Try.prog 9 [] w (RetR R fun u2 w1 => ∃ (b3 : Bool), u2 = .bool b3 ∧ (((!b3) = true → R (.returned (.bool false)) w1) ∧ ((!b3) = false → CallsW Try.prog 12 [.slice d d_n d_c] w1 (RetR R fun u6 w5 => ∃ (a7 : Option
    Addr) (l7 c7 : Nat) (n8 : Int), u6 = .tuple #[.slice a7 l7 c7, .int .i64 n8] ∧ ∃ (J10 : World → Prop), ((((n8 == 0) = true → CallsW Try.prog 10 [.slice a7 l7 c7] w5 (RetR R fun u12 w11 => ∃ (a13 : Option Addr) (l13
    c13 : Nat) (n14 : Int), u12 = .tuple #[.slice a13 l13 c13, .int .i64 n14] ∧ (((n14 != 0) = true → R (.returned (.bool false)) w11) ∧ ((n14 != 0) = false → SemW Try.prog (convert 24 9 (.slice a13 l13 c13)) (fun u17 w16
    => ∃ (s18 : ByteArray), u17 = .string s18 ∧ SemW Try.prog (convert 24 9 (.slice d d_n d_c)) (fun u20 w19 => ∃ (s21 : ByteArray), u20 = .string s21 ∧ ∃ (b22 : Bool), PureTo Try.prog (eqS .neq 9 (.tmp 31) (.tmp 33)
    (.string s18) (.string s21)) (.bool b22) ∧ ((b22 = true → R (.returned (.bool false)) w19) ∧ (b22 = false → J10 w19))) w16) w11)))) ∧ ((n8 == 0) = false → J10 w5))) ∧ ∀  (w23 : World), J10 w23 → CallsW Try.prog 10
    [.slice i i_n i_c] w23 (RetR R fun u25 w24 => ∃ (a26 : Option Addr) (l26 c26 : Nat) (n27 : Int), u25 = .tuple #[.slice a26 l26 c26, .int .i64 n27] ∧ (((n27 != 0) = true → R (.returned (.bool (((l26 : Nat) : Int) ==
    0))) w24) ∧ ((n27 != 0) = false → CallsW Try.prog 12 [.slice a26 l26 c26] w24 (RetR R fun u30 w29 => ∃ (a31 : Option Addr) (l31 c31 : Nat) (n32 : Int), u30 = .tuple #[.slice a31 l31 c31, .int .i64 n32] ∧ (((n32 != 0)
    = true → R (.returned (.bool false)) w29) ∧ ((n32 != 0) = false → CallsW Try.prog 14 [.slice a31 l31 c31, .slice i i_n i_c] w29 (RetR R fun u35 w34 => ∃ (b36 : Bool), u35 = .bool b36 ∧ (((!b36) = true → R (.returned
    (.bool false)) w34) ∧ ((!b36) = false → (((decide (((l26 : Nat) : Int) > 1024)) = true → R (.returned (.bool false)) w34) ∧ ((decide (((l26 : Nat) : Int) > 1024)) = false → (((!((((l26 : Nat) : Int) == 0) == (((i_n :
    Nat) : Int) == 0))) = true → R (.returned (.bool false)) w34) ∧ ((!((((l26 : Nat) : Int) == 0) == (((i_n : Nat) : Int) == 0))) = false → (((((l26 : Nat) : Int) == 0) = true → R (.returned (.bool true)) w34) ∧ ((((l26
    : Nat) : Int) == 0) = false → ∃ (I38 : Int → World → Prop) (m38 : Int → World → Nat), I38 1 w34 ∧ ∀ (n39 : Int) (w40 : World), I38 n39 w40 → (((decide (n39 < ((l26 : Nat) : Int))) = true → (0 ≤ n39 ∧ n39 ≤ (c26 :
    Nat)) ∧ CallsW Try.prog 12 [.slice a26 n39.toNat c26] w40 (RetR R fun u42 w41 => ∃ (a43 : Option Addr) (l43 c43 : Nat) (n44 : Int), u42 = .tuple #[.slice a43 l43 c43, .int .i64 n44] ∧ (((n44 != 3) = true → R
    (.returned (.bool false)) w41) ∧ ((n44 != 3) = false → (I38 (IntKind.i64.wrap (n39 + 1)) w41 ∧ m38 (IntKind.i64.wrap (n39 + 1)) w41 < m38 n39 w40))))) ∧ ((decide (n39 < ((l26 : Nat) : Int))) = false → ∀ (b46 : Nat)
    (w47 : World), Alloc w40 w47 b46 (.cells #[] 5) → SemW Try.prog (Builtin.append_ #[24, 24] 24 #[.slice (some ⟨b46, 0, none⟩) 0 0, .slice a26 l26 c26]) (fun u49 w48 => ∃ (a50 : Option Addr) (l50 c50 : Nat), u49 =
    .slice a50 l50 c50 ∧ ∀ (b51 : Nat) (w52 : World), Alloc w48 w52 b51 (.cells #[.int .u8 0] 5) → SemW Try.prog (Builtin.append_ #[24, 24] 24 #[.slice a50 l50 c50, .slice (some ⟨b51, 0, none⟩) 1 1]) (fun u54 w53 => ∃
    (a55 : Option Addr) (l55 c55 : Nat), u54 = .slice a55 l55 c55 ∧ CallsW Try.prog 12 [.slice a55 l55 c55] w53 (RetR R fun u57 w56 => ∃ (a58 : Option Addr) (l58 c58 : Nat) (n59 : Int), u57 = .tuple #[.slice a58 l58 c58,
    .int .i64 n59] ∧ R (.returned (.bool (n59 == 5))) w56)) w52) w47)))))))))))))))))))))
theorem sx6.ok {d : Option Addr} {d_n d_c : Nat} {i : Option Addr} {i_n i_c : Nat} {R : Ending → World → Prop} {w : World} (h : sx6 d d_n d_c i i_n i_c R w) : CallsW Try.prog 6 [.slice d d_n d_c, .slice i i_n i_c] w R :=
  callsW_of mix Try.func6 (by kernel_rfl) (by kernel_rfl) (Eq.mpr (by kernel_rfl : denFn Try.prog { pureTo := [34], sem := [31, 33, 94, 96], loops := [(17, { slots := [(12, .int .i64)], cells := [] })], cuts := [(8, { slots := [], cells := [] })] } Try.f6 [.slice d d_n d_c, .slice i i_n i_c] R w = sx6 d d_n d_c i i_n i_c R w) h)


theorem BucketForm_ok {a a2 : Option Addr} {n c n2 c2 : Nat} {lb : List Int} {l : List CellV} {w : World} (hr : Reads w (Enc.int .u8) (a, n, c) lb) (hb : Bytes lb) (hbl : lb.length * 1 ≤ 140737488351232)
    (hr2 : Reads w Enc.cell (a2, n2, c2) l) (hf : Cells l) (hl : l.length * 48 ≤ 140737488351232) :
    CallsW Try.prog 6 [.slice a n c, .slice a2 n2 c2] w (Rets fun v w' => v = .bool true ∧ Grew w w') := by
  refine sx6.ok ?_
  unfold sx6
  refine awake_ok.use fun v w1 ⟨hv, hg1⟩ => ?_
  subst hv
  refine ⟨_, rfl, fun h => (by cases h), fun _ => ?_⟩
  refine (Decode_ok (hr.grew hg1) hb (by omega)).use fun v w5 ⟨a7, l7, c7, hv, ho5, hg5⟩ => ?_
  subst hv
  have hg5' := hg1.trans hg5
  refine ⟨_, _, _, _, rfl, fun w' => Grew w w', ⟨fun he => ?_, fun he => hg5'⟩, fun w23 hg23 => ?_⟩
  · have he' : (decodeB lb).2 = 0 := by simpa using he
    obtain ⟨henc, hcl, -, h16⟩ := decodeB_back hb he'
    refine (Encode_ok ho5.reads hcl (by omega)).use fun v w11 ⟨a13, l13, c13, hv, ho11, hg11⟩ => ?_
    subst hv
    rw [henc] at ho11 ⊢
    refine ⟨_, _, _, _, rfl, fun h => (by simp at h), fun _ => ?_⟩
    refine conv_str (e := 5) (by kernel_rfl) (by kernel_rfl) (by kernel_rfl) ho11.reads ⟨_, rfl, conv_str (e := 5) (by kernel_rfl) (by kernel_rfl) (by kernel_rfl) ((hr.grew hg5').grew hg11) ⟨_, rfl, _, eqS_strNe, fun h => ?_, fun _ => hg5'.trans hg11⟩⟩
    rw [beq_toListBytes] at h; simp at h
  refine (Encode_ok (hr2.grew hg23) hf (by omega)).use fun v w24 ⟨a26, l26, c26, hv, ho24, hg24⟩ => ?_
  subst hv
  have hg24' := hg23.trans hg24
  have hl26 := ho24.len
  refine ⟨_, _, _, _, rfl, fun he => ?_, fun he => ?_⟩
  · have he' : (encodeB l).2 ≠ 0 := by simpa using he
    have h0 := encodeB_err l he'
    rw [h0] at hl26
    simp at hl26; subst hl26
    exact ⟨_, rfl, by simp, hg24'⟩
  have he' : (encodeB l).2 = 0 := by simpa using he
  obtain ⟨h16, hch, hc⟩ := encodeB_inv hf he'
  have hn2 : n2 = l.length := hr2.2.1
  have hlen : (encodeB l).1.length ≤ 10 + 37 * l.length := by
    rw [hc]
    split
    · simp
    · have h1 := putB_len10 (x := (l.length : Int)) (by simp only [u64m]; omega)
      have h2 : ∀ (t : List CellV), Cells t → (t.flatMap cellB).length ≤ 37 * t.length := by
        intro t
        induction t with
        | nil => simp
        | cons y t ih =>
          intro ht
          have h3 := cellB_len (ht y (by simp))
          have h4 := ih fun z hz => ht z (by simp [hz])
          simp only [List.flatMap_cons, List.length_append, List.length_cons]; omega
      have := h2 l hf
      simp only [List.length_append]; omega
  have hbc : Bytes (encodeB l).1 := encodeB_bytes hf he'
  have hdec : decodeB (encodeB l).1 = (l, 0) := by
    rw [hc]
    split
    · rename_i h0; subst h0; rfl
    · rename_i h0
      have := decodeB_fwd h0 h16 hch []
      simpa using this
  refine (Decode_ok ho24.reads hbc (by omega)).use fun v w29 ⟨a31, l31, c31, hv, ho29, hg29⟩ => ?_
  subst hv
  rw [hdec] at ho29 ⊢
  have hg29' := hg24'.trans hg29
  refine ⟨_, _, _, _, rfl, fun h => (by simp at h), fun _ => ?_⟩
  refine (same_ok ho29.reads (hr2.grew hg29') (by simp only; omega)).use fun v w34 ⟨hv, hg34⟩ => ?_
  subst hv
  have hg34' := hg29'.trans hg34
  have hz : (((l26 : Nat) : Int) == 0) = (((n2 : Nat) : Int) == 0) := by
    have hpp := putB_pos (l.length : Int)
    have hz' : l26 = 0 ↔ n2 = 0 := by
      rw [hl26, hc, hn2]
      by_cases h0 : l = []
      · simp [h0]
      · rw [if_neg h0]
        have := List.length_pos_iff.2 h0
        simp only [List.length_append]; omega
    by_cases h1 : n2 = 0
    · rw [h1, hz'.2 h1]
    · have h2 : l26 ≠ 0 := fun h => h1 (hz'.1 h)
      have e1 : (((l26 : Nat) : Int) == 0) = false := by simpa using h2
      have e2 : (((n2 : Nat) : Int) == 0) = false := by simpa using h1
      rw [e1, e2]
  refine ⟨_, rfl, fun h => (by simp at h), fun _ => ⟨fun h => (by simp only [decide_eq_true_eq] at h; omega), fun _ => ⟨fun h => (by rw [hz] at h; simp at h), fun _ => ⟨fun _ => ⟨_, rfl, rfl, hg34'⟩, fun h0 => ?_⟩⟩⟩⟩
  have hne : l ≠ [] := by
    rintro rfl
    simp at hn2; subst hn2
    rw [hz] at h0; simp at h0
  rw [if_neg hne] at hc
  have ho34 := (ho24.grew hg29).grew hg34
  refine ⟨fun i w' => ∃ k : Nat, i = k ∧ 1 ≤ k ∧ k ≤ l26 ∧ Grew w34 w', fun i _ => l26 - i.toNat, ⟨1, rfl, by decide, by simp at h0; omega, Grew.refl _⟩, ?_⟩
  rintro i w40 ⟨k, rfl, hk1, hk, hg40⟩
  have ho40 := ho34.grew hg40
  refine ⟨fun hlt => ?_, fun hge b46 w47 hal => ?_⟩
  · simp only [decide_eq_true_eq] at hlt
    have hklt : k < l26 := by omega
    have hcap := ho40.reads.2.2.2
    refine ⟨⟨by omega, by simp only at hcap; omega⟩, ?_⟩
    simp only [Int.toNat_natCast]
    refine (Decode_ok (ho40.take (k := k) (by omega)).reads (hbc.take k) (by simp; omega)).use fun v w41 ⟨a43, l43, c43, hv, ho41, hg41⟩ => ?_
    subst hv
    have hcut : decodeB ((encodeB l).1.take k) = ([], 3) := by rw [hc]; exact decodeB_cut hne h16 hch (by omega) (by rw [← hc]; omega)
    rw [hcut]
    have hw : IntKind.i64.wrap ((k : Int) + 1) = ((k + 1 : Nat) : Int) := by rw [IntKind.wrap_i64]; omega
    rw [hw]
    refine ⟨_, _, _, _, rfl, fun h => (by simp at h), fun _ => ⟨⟨k + 1, rfl, by omega, by omega, hg40.trans hg41⟩, by show l26 - (((k + 1 : Nat) : Int)).toNat < l26 - ((k : Int)).toNat; omega⟩⟩
  · have ho47 := Own.alloc (E := Enc.int .u8) (l := []) hal (Nat.le_refl _) rfl (by decide)
    have hg47 := hg34'.trans (hg40.trans hal.grew)
    refine pushR_ok (w0 := w) (ho47.base (hg34'.trans hg40).size) hg47 (ho40.grew hal.grew).reads (Grew.refl _) (by simp; omega) ?_
    intro a50 l50 c50 w48 ho48 hg48
    refine ⟨_, _, _, rfl, fun b51 w52 hal52 => ?_⟩
    refine push_new ho48 hg48 hal52 (by simp; omega) ?_
    intro a55 l55 c55 w53 ho53 hg53
    refine ⟨_, _, _, rfl, (Decode_ok ho53.reads (by simpa using hbc.append (fun c hc => (by simp at hc; omega))) (by simp; omega)).use fun v w56 ⟨a58, l58, c58, hv, ho56, hg56⟩ => ?_⟩
    subst hv
    have hb1 : decodeB (([] ++ (encodeB l).1) ++ [0]) = ([], 5) := by
      rw [List.nil_append, hc]
      have := decodeB_fwd hne h16 hch [0]
      rw [this, if_neg (by simp)]
    rw [hb1]
    exact ⟨_, _, _, _, rfl, _, rfl, by simp, hg53.trans hg56⟩

open Go.ChangeShapes Go.WideShapes Go.ChangeAt Go.RowKit
set_option maxRecDepth 100000 in
theorem bucketForm_lifted (os : Os) (started : os.Started) (H : Type) (enc : TypeId × Value → H) :
    ReturnsInHanded {} Try.checked os 6 .any (Rows.bucketFormSpec.pre6 enc Try.prog Try.f6 Rows.bucketFormRow.domain false) (Rows.bucketFormSpec.post enc Try.prog Try.f6 false true false false) := by
  refine returnsInHanded_of_change_sized (C := Try.checked) (by kernel_rfl) started (by kernel_rfl) Try.func6
    (ChangeSpec.witness6 (enc := enc) (C := Try.checked) false ⟨#[], #[.slice none 0 0, .slice none 0 0], []⟩ 8 (by kernel_rfl) (by kernel_rfl) (by kernel_rfl) (by kernel_rfl)) ?_
  intro W base args ds gs before hval0 hW hcnd hsz0 _
  have hval : ∀ (j : Nat) t v, Try.f6.params[j]? = some t → args[j]? = some v → Value.okWide Try.prog W .any base t v := hval0
  have hW' := hW
  obtain ⟨p, q, hA0, hV, rfl, hfz, hnd⟩ := hW
  have hA : DataW.TrodAll enc Try.prog W 0 (fun _ => true) true Try.f6.params.toList args.toList ds p := hA0
  have hsz : (DataW.weightsEach Try.prog (Try.f6.params.toList ++ _) (ds ++ gs)).all (· ≤ reachBytes) = true := hsz0
  rw [show Try.f6.params = #[24, 22] from by kernel_rfl] at hA hval hsz
  have hA1 := hA
  obtain ⟨v0, vs0, d0, ds0, p0, q0, hargs, rfl, rfl, h0, r0⟩ := trodAll_cons hA
  obtain ⟨v1, vs1, d1, ds1, p1, q1, rfl, rfl, rfl, h1, r1⟩ := trodAll_cons r0
  obtain ⟨rfl, rfl, rfl⟩ := trodAll_nil r1
  obtain rfl : args = #[v0, v1] := by cases args; simp_all
  obtain ⟨a0, n0, c0, l0, rfl, hr0, hcl0, hn0, hs0⟩ := open_flat (P := Try.prog) (t := 24) (e := 5) (by kernel_rfl) byte_kinds (by kernel_rfl) (hval 0 24 v0 rfl rfl) h0 (E := encU8) rfl byte_of_kinds
  have hb0 : l0.length * 1 ≤ 140737488351232 := by have h1 := sized_len hsz (j := 0) (t := 24) (e := 5) rfl rfl (by kernel_rfl) (B := 1) (by kernel_rfl) hs0; have h2 := hr0.2.1; simp only at h2; omega
  obtain ⟨a1, n1, c1, l1, rfl, hr1, hcl1, hn1, hs1⟩ := open_flat (P := Try.prog) (t := 22) (e := 37) (by kernel_rfl) cell_kinds (by kernel_rfl) (hval 1 22 v1 rfl rfl) h1 (E := Enc.cell) rfl cell_of_kinds
  have hb1 : l1.length * 48 ≤ 140737488351232 := by have h1 := sized_len hsz (j := 1) (t := 22) (e := 37) rfl rfl (by kernel_rfl) (B := 48) (by kernel_rfl) hs1; have h2 := hr1.2.1; simp only at h2; omega
  clear hA0 hA1 hval0 hsz0
  refine (CallsW.calls ⟨_, Try.func6, by kernel_rfl, by kernel_rfl⟩ (BucketForm_ok hr0 hcl0 hb0 hr1 hcl1 hb1)).mono fun e W' ⟨w', hh, hk, v, he, hv, hg⟩ => ?_
  subst he; subst hv
  exact ⟨_, rfl, post_true (tb := 4) (by kernel_rfl) rfl (by kernel_rfl) (by kernel_rfl) ⟨rfl, rfl, rfl⟩ (by decide +kernel) hW' (below_of hg hh hk)⟩

theorem bucketForm_holds : Rows.BucketFormSaid :=
  OpenClaim.holds_of_wide 6 Try.f6 rfl rfl rfl rfl rfl rfl rfl ⟨rfl, rfl, rfl, rfl, rfl⟩ rfl rfl rfl rfl rfl (by kernel_rfl) Try.func6 (by kernel_rfl)
    (of_decide_eq_true (by kernel_rfl)) (by unfold Func.isWrapper; first | (rw [if_pos (by decide +kernel)]; kernel_rfl) | (rw [if_neg (by decide +kernel)]; exact ⟨rfl, rfl⟩))
    (fun os started H enc _ => bucketForm_lifted os started H enc)
end Go.Proofs.Ytnbknhcpjggabaa
