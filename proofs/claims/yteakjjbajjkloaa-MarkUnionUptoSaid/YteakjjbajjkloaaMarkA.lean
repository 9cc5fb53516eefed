/- The law's awake holds. Conditions: none. -/
import Derived.Test.YteakjjbajjkloaaProg
import Derived.Test.YteakjjbajjkloaaKindsM
namespace Go.Proofs.Yteakjjbajjkloaa
open Go.Sx
set_option maxRecDepth 100000
set_option linter.unusedVariables false
set_option linter.unusedSimpArgs false
/- reprise/repriselaw12.awake -/
def sx11  (R : Ending → World → Prop) (w : World) : Prop :=
  ∀ (b1 : Nat) (w2 : World), Alloc w w2 b1 (.cells #[.int .u64 1, .int .u64 128] 38) → ∀ w3, Grew w2 w3 → CallsW Try.prog 12 [.agg #[.int .i64 3, .int .i64 300, .slice (some ⟨b1, 0, none⟩) 2 2]] w3 (RetR R fun u5 w4 => ∃
    (a6 : Option Addr) (l6 c6 : Nat) (n7 : Int), u5 = .tuple #[.slice a6 l6 c6, .int .i64 n7] ∧ ∀ (b9 : Nat) (w10 : World), Alloc w4 w10 b9 (.cells #[.int .u8 3, .int .u8 172, .int .u8 2, .int .u8 2, .int .u8 1, .int .u8
    128, .int .u8 1] 5) → SemW Try.prog (convert 26 26 (.slice (some ⟨b9, 0, none⟩) 7 7)) (fun u12 w11 => ∃ (a13 : Option Addr) (l13 c13 : Nat), u12 = .slice a13 l13 c13 ∧ CallsW Try.prog 16 [.slice a13 l13 c13] w11 (RetR
    R fun u15 w14 => ∃ (n16 : Int) (n17 : Int) (a18 : Option Addr) (l18 c18 : Nat) (n19 : Int), u15 = .tuple #[.agg #[.int .i64 n16, .int .i64 n17, .slice a18 l18 c18], .int .i64 n19] ∧ ∀ w21, Grew w14 w21 → CallsW
    Try.prog 14 [.agg #[.int .i64 3, .int .i64 300, .slice (some ⟨b1, 0, none⟩) 2 2]] w21 (RetR R fun u23 w22 => ∃ (b24 : Bool), u23 = .bool b24 ∧ ((b24 = true → SemW Try.prog (convert 26 9 (.slice a6 l6 c6)) (fun u27 w26
    => ∃ (s28 : ByteArray), u27 = .string s28 ∧ ∃ (b29 : Bool), PureTo Try.prog (eqS .eql 9 (.tmp 23) (.const (.string (ByteArray.mk (#[3, 172, 2, 2, 1, 128, 1]) : ByteArray))) (.string s28) (.string (ByteArray.mk (#[3,
    172, 2, 2, 1, 128, 1]) : ByteArray))) (.bool b29) ∧ ((b29 = true → (((n7 == 0) = true → CallsW Try.prog 18 [.agg #[.int .i64 n16, .int .i64 n17, .slice a18 l18 c18], .agg #[.int .i64 3, .int .i64 300, .slice (some
    ⟨b1, 0, none⟩) 2 2]] w26 (RetR R fun u31 w30 => ∃ (b32 : Bool), u31 = .bool b32 ∧ ((b32 = true → (((n19 == 0) = true → CallsW Try.prog 19 [.agg #[.int .i64 3, .int .i64 300, .slice (some ⟨b1, 0, none⟩) 2 2], .int .i64
    3, .int .i64 6] w30 (RetR R fun u35 w34 => ∃ (n36 : Int), u35 = .int .i64 n36 ∧ (((n36 == 130) = true → CallsW Try.prog 19 [.agg #[.int .i64 3, .int .i64 300, .slice (some ⟨b1, 0, none⟩) 2 2], .int .i64 4, .int .i64
    1] w34 (RetR R fun u39 w38 => ∃ (n40 : Int), u39 = .int .i64 n40 ∧ (((n40 == 131) = true → CallsW Try.prog 21 [.int .i64 1, .int .i64 2, .int .i64 1, .int .i64 1] w38 (RetR R fun u43 w42 => ∃ (n44 : Int), u43 = .int
    .i64 n44 ∧ (((n44 == 1) = true → CallsW Try.prog 28 [.agg #[.int .i64 3, .int .i64 300, .slice (some ⟨b1, 0, none⟩) 2 2], .int .u64 128] w42 (RetR R fun u47 w46 => ∃ (b48 : Bool), u47 = .bool b48 ∧ ((b48 = true →
    CallsW Try.prog 26 [.slice (some ⟨b1, 0, none⟩) 2 2] w46 (RetR R fun u51 w50 => ∃ (b52 : Bool), u51 = .bool b52 ∧ ((b52 = true → ∀ (b54 : Nat) (w55 : World), Alloc w50 w55 b54 (.cells #[.int .u64 5, .int .u64 1, .int
    .u64 5] 38) → ∀ (b56 : Nat) (w57 : World), Alloc w55 w57 b56 (.cells #[.int .u64 2] 38) → CallsW Try.prog 24 [.slice (some ⟨b54, 0, none⟩) 3 3, .slice (some ⟨b56, 0, none⟩) 1 1] w57 (RetR R fun u59 w58 => ∃ (a60 :
    Option Addr) (l60 c60 : Nat), u59 = .slice a60 l60 c60 ∧ ∀ (b62 : Nat) (w63 : World), Alloc w58 w63 b62 (.cells #[.int .u64 1, .int .u64 2, .int .u64 5] 38) → CallsW Try.prog 23 [.slice a60 l60 c60, .slice (some ⟨b62,
    0, none⟩) 3 3] w63 (RetR R fun u65 w64 => ∃ (b66 : Bool), u65 = .bool b66 ∧ R (.returned (.bool b66)) w64))) ∧ (b52 = false → R (.returned (.bool false)) w50)))) ∧ (b48 = false → R (.returned (.bool false)) w46)))) ∧
    ((n44 == 1) = false → R (.returned (.bool false)) w42)))) ∧ ((n40 == 131) = false → R (.returned (.bool false)) w38)))) ∧ ((n36 == 130) = false → R (.returned (.bool false)) w34)))) ∧ ((n19 == 0) = false → R
    (.returned (.bool false)) w30))) ∧ (b32 = false → R (.returned (.bool false)) w30)))) ∧ ((n7 == 0) = false → R (.returned (.bool false)) w26))) ∧ (b29 = false → R (.returned (.bool false)) w26))) w22) ∧ (b24 = false →
    R (.returned (.bool false)) w22))))) w10)
theorem sx11.ok  {R : Ending → World → Prop} {w : World} (h : sx11  R w) : CallsW Try.prog 11 [] w R :=
  callsW_of mix Try.func11 (by kernel_rfl) (by kernel_rfl) (Eq.mpr (by kernel_rfl : denFn Try.prog { locals := [1, 4], pureTo := [24], sem := [15, 23] } Try.f11 [] R w = sx11  R w) h)


def mA : MarkV := ⟨3, 300, [1, 128]⟩
theorem mA_sound : soundM mA = true := by decide +kernel
theorem mA_keys : Keys64 mA.keys := by intro x hx; simp [mA] at hx; rcases hx with rfl | rfl <;> simp [u64m]
theorem mA_bytes : bytesM mA = [3, 172, 2, 2, 1, 128, 1] := by
  simp only [bytesM, mA, List.flatMap_cons, List.flatMap_nil, List.length_cons, List.length_nil]
  rw [putB_lt (x := 3) (by decide), putB_ge (x := 300) (by decide), putB_lt (x := 300 / 128) (by decide), putB_lt (x := ((0 + 1 + 1 : Nat) : Int)) (by decide), putB_lt (x := 1) (by decide), putB_ge (x := 128) (by decide), putB_lt (x := 128 / 128) (by decide)]
  decide
theorem mA_enc : encodeM mA = ([3, 172, 2, 2, 1, 128, 1], 0) := by rw [encodeM, if_pos mA_sound, mA_bytes]
theorem mA_dec : decodeM [3, 172, 2, 2, 1, 128, 1] = (mA, 0) := by
  have := decodeM_fwd mA_sound mA_keys []
  rw [mA_bytes, List.append_nil, if_pos rfl] at this
  exact this
theorem mA_str : (strB [3, 172, 2, 2, 1, 128, 1] == (ByteArray.mk (#[3, 172, 2, 2, 1, 128, 1]) : ByteArray)) = true := by decide +kernel
theorem uA : unionL ([5, 1, 5] ++ [2]) = [1, 2, 5] := rising_ext (unionL_rising _) (by simp) fun z => by rw [unionL_mem]; simp; omega

theorem awakeM_ok {w : World} : CallsW Try.prog 11 [] w (Rets fun v w' => v = .bool true ∧ Grew w w') := by
  refine sx11.ok ?_
  unfold sx11
  intro b1 w2 hal w3 hg3
  have hA := (Own.alloc (E := Enc.int .u64) (l := mA.keys) hal (Nat.le_refl _) rfl (by simp [maxLen, mA])).reads
  have hg3' := hal.grew.trans hg3
  have hA3 := hA.grew hg3
  refine (MEncode_ok (m := mA) hA3 mA_keys (by simp [mA])).use fun v w4 ⟨a6, l6, c6, hv, ho4, hg4⟩ => ?_
  subst hv
  rw [mA_enc] at ho4 ⊢
  have hg4' := hg3'.trans hg4
  refine ⟨_, _, _, _, rfl, fun b9 w10 hal10 => ?_⟩
  have hrow : Row w10 b9 5 [.int .u8 3, .int .u8 172, .int .u8 2, .int .u8 2, .int .u8 1, .int .u8 128, .int .u8 1] := hal10.at_
  refine conv_bytes (e := 5) (by kernel_rfl) (by kernel_rfl) hrow ?_
  intro w11 hu11 hc11
  have hg11 : Grew w4 w11 := hal10.grew.then_own hu11 fun x hx => by rw [hx]; exact hal10.new
  have hrB : Reads w11 (Enc.int .u8) (some ⟨b9, 0, none⟩, 7, 7) [3, 172, 2, 2, 1, 128, 1] := by
    refine ⟨fun i x hx => ⟨_, rfl, ?_⟩, rfl, fun h => (by cases h), Nat.le_refl _⟩
    have hil : i < 7 := (List.getElem?_eq_some_iff.1 hx).1
    have := hc11 i (.int .u8 x) (by rcases (by omega : i = 0 ∨ i = 1 ∨ i = 2 ∨ i = 3 ∨ i = 4 ∨ i = 5 ∨ i = 6) with rfl | rfl | rfl | rfl | rfl | rfl | rfl <;> (simp at hx; subst hx; rfl))
    simpa [Enc.int, CellsAt, Addr.add_zero', add_mk] using this
  have hbB : Bytes [3, 172, 2, 2, 1, 128, 1] := by intro x hx; simp at hx; omega
  refine ⟨_, _, _, rfl, (MDecode_ok hrB hbB (by simp) ?_).use fun v w14 ⟨a18, l18, c18, hv, ho14, hg14⟩ => ?_⟩
  · rintro x ⟨d, hd, rfl⟩ _
    cases hd
    have := hal10.lt; have := hu11.size; simp only; omega
  subst hv
  rw [mA_dec] at ho14 ⊢
  have hg14' := hg4'.trans (hg11.trans hg14)
  have hA14 := hA3.grew (hg4.trans (hg11.trans hg14))
  refine ⟨_, _, _, _, _, _, rfl, fun w21 hg21 => ?_⟩
  have hA21 := hA14.grew hg21
  refine (Sound_ok (m := mA) hA21 (by simp [mA])).use fun v w22 ⟨hv, hg22⟩ => ?_
  subst hv
  rw [mA_sound]
  have ho22 := ho4.grew (hg11.trans (hg14.trans (hg21.trans hg22)))
  refine ⟨_, rfl, fun _ => ?_, fun h => (by cases h)⟩
  refine conv_str (e := 5) (by kernel_rfl) (by kernel_rfl) (by kernel_rfl) ho22.reads ⟨_, rfl, _, eqS_str, fun _ => ⟨fun _ => ?_, fun h => (by simp at h)⟩, fun h => (by rw [mA_str] at h; cases h)⟩
  have hA22 := hA21.grew hg22
  refine (sameMark_ok (m := mA) (k := mA) ((ho14.grew hg21).grew hg22).reads hA22 (by simp [mA])).use fun v w30 ⟨hv, hg30⟩ => ?_
  subst hv
  rw [sameM_refl]
  refine ⟨_, rfl, fun _ => ⟨fun _ => ?_, fun h => (by simp at h)⟩, fun h => (by cases h)⟩
  refine (Judge_ok (m := mA)).use fun v w34 ⟨hv, hg34⟩ => ?_
  subst hv
  refine ⟨_, rfl, fun _ => ?_, fun h => absurd h (by decide)⟩
  refine (Judge_ok (m := mA)).use fun v w38 ⟨hv, hg38⟩ => ?_
  subst hv
  refine ⟨_, rfl, fun _ => ?_, fun h => absurd h (by decide)⟩
  refine MCompare_ok.use fun v w42 ⟨hv, hg42⟩ => ?_
  subst hv
  refine ⟨_, rfl, fun _ => ?_, fun h => absurd h (by decide)⟩
  have hA42 := hA22.grew (hg30.trans (hg34.trans (hg38.trans hg42)))
  refine (Has_ok (m := mA) (key := 128) hA42 (by simp [mA])).use fun v w46 ⟨hv, hg46⟩ => ?_
  subst hv
  refine ⟨_, rfl, fun _ => ?_, fun h => absurd h (by decide)⟩
  refine (KRising_ok (hA42.grew hg46) (by simp [mA])).use fun v w50 ⟨hv, hw⟩ => ?_
  subst hv; subst hw
  refine ⟨_, rfl, fun _ => ?_, fun h => absurd h (by decide)⟩
  intro b54 w55 hal55 b56 w57 hal57
  have h1 := ((Own.alloc (E := Enc.int .u64) (l := [5, 1, 5]) hal55 (Nat.le_refl _) rfl (by simp [maxLen])).grew hal57.grew).reads
  have h2 := (Own.alloc (E := Enc.int .u64) (l := [2]) hal57 (Nat.le_refl _) rfl (by simp [maxLen])).reads
  refine (Union_ok h1 h2 (by simp)).use fun v w58 ⟨a60, l60, c60, hv, ho58, hg58⟩ => ?_
  subst hv
  rw [uA] at ho58
  refine ⟨_, _, _, rfl, fun b62 w63 hal63 => ?_⟩
  have h3 := (Own.alloc (E := Enc.int .u64) (l := [1, 2, 5]) hal63 (Nat.le_refl _) rfl (by simp [maxLen])).reads
  refine (keys_ok (ho58.grew hal63.grew).reads h3 (by simp)).use fun v w64 ⟨hv, hg64⟩ => ?_
  subst hv
  exact ⟨_, rfl, _, rfl, by simp, (hg14'.trans (hg21.trans (hg22.trans (hg30.trans (hg34.trans (hg38.trans (hg42.trans hg46))))))).trans (hal55.grew.trans (hal57.grew.trans (hg58.trans (hal63.grew.trans hg64))))⟩
end Go.Proofs.Yteakjjbajjkloaa
