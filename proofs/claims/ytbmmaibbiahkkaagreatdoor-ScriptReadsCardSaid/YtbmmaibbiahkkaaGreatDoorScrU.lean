/- The reference's cutting of texts. Conditions: none. -/
import Derived.Test.YtbmmaibbiahkkaaGreatDoorProg
import Derived.Test.YtbmmaibbiahkkaaGreatDoorScrR
namespace Go.Proofs.YtbmmaibbiahkkaaGreatDoor
open Go.Sx
set_option maxRecDepth 100000
set_option linter.unusedVariables false
set_option linter.unusedSimpArgs false
def sx23 (line : ByteArray) (R : Ending → World → Prop) (w : World) : Prop :=
 ∀ b1 w2, An w w2 b1 (.cells #[] 9) → ∃ (I3 : Option Addr → Nat → Nat → Int → Int → World → Prop) (m3 : Option Addr → Nat → Nat → Int → Int → World → Nat), I3 (some ⟨b1, 0, none⟩) 0 0 0 0 w2 ∧ ∀ a4 l4 c4 n5 n6 w7, I3 a4 l4 c4 n5 n6 w7 → ifB (decide (n6 < ((ByteArray.size line : Nat) : Int))) (∃ (b8 : UInt8), (0 ≤ n6 ∧ (line).data[n6.toNat]? = some b8) ∧ ifB ((b8.toNat : Int) == 32) ((0 ≤ (n6 : Int) ∧ (n6 : Int) ≤ (ByteArray.size line : Nat)) ∧ (0 ≤ (n5 : Int) ∧ (n5 : Int) ≤ ((n6 : Int).toNat : Nat)) ∧ ∀ b9 w10, An w7 w10 b9 (.cells #[.string (ByteArray.extract line (n5 : Int).toNat ((n6 : Int).toNat))] 9) → SemW Tryz.prog (Builtin.append_ #[61, 61] 61 #[.slice a4 l4 c4, .slice (some ⟨b9, 0, none⟩) 1 1]) (fun u12 w11 => ∃ a13 l13 c13, u12 = .slice a13 l13 c13 ∧ (I3 a13 l13 c13 (IntKind.i64.wrap (n6 + 1)) (IntKind.i64.wrap (n6 + 1)) w11 ∧ m3 a13 l13 c13 (IntKind.i64.wrap (n6 + 1)) (IntKind.i64.wrap (n6 + 1)) w11 < m3 a4 l4 c4 n5 n6 w7)) w10) ((I3 a4 l4 c4 n5 (IntKind.i64.wrap (n6 + 1)) w7 ∧ m3 a4 l4 c4 n5 (IntKind.i64.wrap (n6 + 1)) w7 < m3 a4 l4 c4 n5 n6 w7))) ((0 ≤ (n5 : Int) ∧ (n5 : Int) ≤ (ByteArray.size line : Nat)) ∧ ∀ b14 w15, An w7 w15 b14 (.cells #[.string (ByteArray.extract line (n5 : Int).toNat (ByteArray.size line))] 9) → SemW Tryz.prog (Builtin.append_ #[61, 61] 61 #[.slice a4 l4 c4, .slice (some ⟨b14, 0, none⟩) 1 1]) (fun u17 w16 => ∃ a18 l18 c18, u17 = .slice a18 l18 c18 ∧ R (.returned (.slice a18 l18 c18)) w16) w15)
theorem sx23.ok {line : ByteArray} {R : Ending → World → Prop} {w : World} (h : sx23 line R w) : Aa Tryz.prog 23 [.string line] w R :=
 okOf { sem := [23, 31], loops := [(4, { slots := [(3, .slice), (4, .int .i64), (5, .int .i64)], cells := [] })] } mix Tryz.func23 (by kernel_rfl) (by kernel_rfl) (by kernel_rfl) h
def sx22 (text : ByteArray) (R : Ending → World → Prop) (w : World) : Prop :=
 ∀ b1 w2, An w w2 b1 (.cells #[] 9) → ∃ (I3 : Option Addr → Nat → Nat → Int → Int → World → Prop) (m3 : Option Addr → Nat → Nat → Int → Int → World → Nat), I3 (some ⟨b1, 0, none⟩) 0 0 0 0 w2 ∧ ∀ a4 l4 c4 n5 n6 w7, I3 a4 l4 c4 n5 n6 w7 → ifB (decide (n6 < ((ByteArray.size text : Nat) : Int))) (∃ (b8 : UInt8), (0 ≤ n6 ∧ (text).data[n6.toNat]? = some b8) ∧ ifB ((b8.toNat : Int) == 10) ((0 ≤ (n6 : Int) ∧ (n6 : Int) ≤ (ByteArray.size text : Nat)) ∧ (0 ≤ (n5 : Int) ∧ (n5 : Int) ≤ ((n6 : Int).toNat : Nat)) ∧ ∀ b9 w10, An w7 w10 b9 (.cells #[.string (ByteArray.extract text (n5 : Int).toNat ((n6 : Int).toNat))] 9) → SemW Tryz.prog (Builtin.append_ #[61, 61] 61 #[.slice a4 l4 c4, .slice (some ⟨b9, 0, none⟩) 1 1]) (fun u12 w11 => ∃ a13 l13 c13, u12 = .slice a13 l13 c13 ∧ (I3 a13 l13 c13 (IntKind.i64.wrap (n6 + 1)) (IntKind.i64.wrap (n6 + 1)) w11 ∧ m3 a13 l13 c13 (IntKind.i64.wrap (n6 + 1)) (IntKind.i64.wrap (n6 + 1)) w11 < m3 a4 l4 c4 n5 n6 w7)) w10) ((I3 a4 l4 c4 n5 (IntKind.i64.wrap (n6 + 1)) w7 ∧ m3 a4 l4 c4 n5 (IntKind.i64.wrap (n6 + 1)) w7 < m3 a4 l4 c4 n5 n6 w7))) ((0 ≤ (n5 : Int) ∧ (n5 : Int) ≤ (ByteArray.size text : Nat)) ∧ ∀ b14 w15, An w7 w15 b14 (.cells #[.string (ByteArray.extract text (n5 : Int).toNat (ByteArray.size text))] 9) → SemW Tryz.prog (Builtin.append_ #[61, 61] 61 #[.slice a4 l4 c4, .slice (some ⟨b14, 0, none⟩) 1 1]) (fun u17 w16 => ∃ a18 l18 c18, u17 = .slice a18 l18 c18 ∧ R (.returned (.slice a18 l18 c18)) w16) w15)
theorem sx22.ok {text : ByteArray} {R : Ending → World → Prop} {w : World} (h : sx22 text R w) : Aa Tryz.prog 22 [.string text] w R :=
 okOf { sem := [23, 31], loops := [(4, { slots := [(3, .slice), (4, .int .i64), (5, .int .i64)], cells := [] })] } mix Tryz.func22 (by kernel_rfl) (by kernel_rfl) (by kernel_rfl) h
def sx24 (word : ByteArray) (R : Ending → World → Prop) (w : World) : Prop :=
  ∃ b1, Ai Tryz.prog (eqS .eql 9 (.tmp 4) (.const (.string (ByteArray.mk (#[112, 114, 111, 100, 117, 99, 101]) : ByteArray))) (.string word) (.string (ByteArray.mk (#[112, 114, 111, 100, 117, 99, 101]) : ByteArray))) (.bool b1) ∧ ifB b1 (R (.returned (.tuple #[.string (ByteArray.mk (#[110, 117, 118]) : ByteArray), .int .i64 1])) w) (∃ b2, Ai Tryz.prog (eqS .eql 9 (.tmp 4) (.const (.string (ByteArray.mk (#[115, 119, 105, 116, 99, 104]) : ByteArray))) (.string word) (.string (ByteArray.mk (#[115, 119, 105, 116, 99, 104]) : ByteArray))) (.bool b2) ∧ ifB b2 (R (.returned (.tuple #[.string (ByteArray.mk (#[110, 107]) : ByteArray), .int .i64 2])) w) (∃ b3, Ai Tryz.prog (eqS .eql 9 (.tmp 4) (.const (.string (ByteArray.mk (#[116, 105, 99, 107]) : ByteArray))) (.string word) (.string (ByteArray.mk (#[116, 105, 99, 107]) : ByteArray))) (.bool b3) ∧ ifB b3 (R (.returned (.tuple #[.string (ByteArray.mk (#[]) : ByteArray), .int .i64 3])) w) (∃ b4, Ai Tryz.prog (eqS .eql 9 (.tmp 4) (.const (.string (ByteArray.mk (#[100, 101, 108, 105, 118, 101, 114]) : ByteArray))) (.string word) (.string (ByteArray.mk (#[100, 101, 108, 105, 118, 101, 114]) : ByteArray))) (.bool b4) ∧ ifB b4 (R (.returned (.tuple #[.string (ByteArray.mk (#[107]) : ByteArray), .int .i64 4])) w) (∃ b5, Ai Tryz.prog (eqS .eql 9 (.tmp 4) (.const (.string (ByteArray.mk (#[100, 114, 111, 112]) : ByteArray))) (.string word) (.string (ByteArray.mk (#[100, 114, 111, 112]) : ByteArray))) (.bool b5) ∧ ifB b5 (R (.returned (.tuple #[.string (ByteArray.mk (#[107]) : ByteArray), .int .i64 5])) w) (∃ b6, Ai Tryz.prog (eqS .eql 9 (.tmp 4) (.const (.string (ByteArray.mk (#[99, 111, 112, 121]) : ByteArray))) (.string word) (.string (ByteArray.mk (#[99, 111, 112, 121]) : ByteArray))) (.bool b6) ∧ ifB b6 (R (.returned (.tuple #[.string (ByteArray.mk (#[107]) : ByteArray), .int .i64 6])) w) (∃ b7, Ai Tryz.prog (eqS .eql 9 (.tmp 4) (.const (.string (ByteArray.mk (#[99, 117, 116]) : ByteArray))) (.string word) (.string (ByteArray.mk (#[99, 117, 116]) : ByteArray))) (.bool b7) ∧ ifB b7 (R (.returned (.tuple #[.string (ByteArray.mk (#[110, 107]) : ByteArray), .int .i64 7])) w) (∃ b8, Ai Tryz.prog (eqS .eql 9 (.tmp 4) (.const (.string (ByteArray.mk (#[99, 114, 97, 115, 104]) : ByteArray))) (.string word) (.string (ByteArray.mk (#[99, 114, 97, 115, 104]) : ByteArray))) (.bool b8) ∧ ifB b8 (R (.returned (.tuple #[.string (ByteArray.mk (#[110]) : ByteArray), .int .i64 8])) w) (∃ b9, Ai Tryz.prog (eqS .eql 9 (.tmp 4) (.const (.string (ByteArray.mk (#[114, 101, 115, 116, 97, 114, 116]) : ByteArray))) (.string word) (.string (ByteArray.mk (#[114, 101, 115, 116, 97, 114, 116]) : ByteArray))) (.bool b9) ∧ ifB b9 (R (.returned (.tuple #[.string (ByteArray.mk (#[110]) : ByteArray), .int .i64 9])) w) (∃ b10, Ai Tryz.prog (eqS .eql 9 (.tmp 4) (.const (.string (ByteArray.mk (#[113, 117, 101, 114, 121]) : ByteArray))) (.string word) (.string (ByteArray.mk (#[113, 117, 101, 114, 121]) : ByteArray))) (.bool
 b10) ∧ ifB b10 (R (.returned (.tuple #[.string (ByteArray.mk (#[117]) : ByteArray), .int .i64 10])) w) (∃ b11, Ai Tryz.prog (eqS .eql 9 (.tmp 4) (.const (.string (ByteArray.mk (#[114, 111, 117, 110, 100]) : ByteArray))) (.string word) (.string (ByteArray.mk (#[114, 111, 117, 110, 100]) : ByteArray))) (.bool b11) ∧ ifB b11 (R (.returned (.tuple #[.string (ByteArray.mk (#[]) : ByteArray), .int .i64 11])) w) (R (.returned (.tuple #[.string (ByteArray.mk (#[]) : ByteArray), .int .i64 0])) w)))))))))))
theorem sx24.ok {word : ByteArray} {R : Ending → World → Prop} {w : World} (h : sx24 word R w) : Aa Tryz.prog 24 [.string word] w R :=
 okOf { pureTo := [6, 8, 10, 12, 14, 16, 18, 20, 22, 24, 26] } mix Tryz.func24 (by kernel_rfl) (by kernel_rfl) (by kernel_rfl) h
theorem Jv : B1 Tryz.prog 61 9 Enc.text.sz 16 := B1.mk' (z := .string ByteArray.empty) (by kernel_rfl) (by kernel_rfl) (by kernel_rfl)
theorem Kw {c : UInt8} {s : L8} {at_ j : Nat} (ha : at_ ≤ j) (hj : j < s.length) (hc : s[j] = c) (hn : ∀ k, at_ ≤ k → k < j → s[k]? ≠ some c) : Ad c (s.drop at_) = ((s.take j).drop at_) :: Ad c (s.drop (j + 1)) := by
 have e : s.drop at_ = (s.take j).drop at_ ++ c :: s.drop (j + 1) := by
  have h1 : s = s.take j ++ c :: s.drop (j + 1) := by
   rw [← hc, ← List.drop_eq_getElem_cons hj, List.take_append_drop]
  conv => lhs; rw [h1]
  rw [List.drop_append_of_le_length (by rw [List.length_take]; omega)]
 rw [e]
 refine Ed _ fun hm => ?_
 obtain ⟨k, hk⟩ := List.getElem?_of_mem hm
 rw [List.getElem?_drop, List.getElem?_take] at hk
 split at hk
 ·exact hn (at_ + k) (by omega) (by omega) hk
 ·cases hk
theorem L5 {c : UInt8} {s : L8} {at_ : Nat} (hn : ∀ k, at_ ≤ k → k < s.length → s[k]? ≠ some c) : Ad c (s.drop at_) = [s.drop at_] :=
 Dh fun hm => by
  obtain ⟨k, hk⟩ := List.getElem?_of_mem hm
  rw [List.getElem?_drop] at hk
  exact hn (at_ + k) (by omega) (List.getElem?_eq_some_iff.1 hk).1 hk
theorem Nt {s : L8} {w : World} (hs : s.length ≤ 1000000) : Aa Tryz.prog 23 [.string (bs s)] w (Rets fun v w' => ∃ a n c, v = .slice a n c ∧ Own w' w.heap.size 9 Enc.text a n c (Ad 32 s) ∧ Grew w w') := by
 refine sx23.ok ?_
 unfold sx23
 intro b1 w2 hal
 rw [Ao]
 refine ⟨fun a n c at_ i w' => ∃ (j k : Nat) (pre : List L8), i = j ∧ at_ = k ∧ k ≤ j ∧ j ≤ s.length ∧ pre.length ≤ j ∧ (∀ q, k ≤ q → q < j → s[q]? ≠ some 32) ∧ Ad 32 s = pre ++ Ad 32 (s.drop k) ∧ Own w' w.heap.size 9 Enc.text a n c pre ∧ Grew w w', fun _ _ _ _ i _ => s.length - i.toNat,
  ⟨0, 0, [], rfl, rfl, by omega, Nat.zero_le _, by simp, fun q _ h => (by omega), rfl, Own.alloc (l := []) hal (Nat.le_refl _) rfl (by simp [maxLen]), hal.grew⟩, ?_⟩
 rintro a4 l4 c4 n5 n6 w7 ⟨j, k, pre, rfl, rfl, hkj, hj, hpl, hn, hsp, ho, hg⟩
 refine ⟨fun hlt => ?_, fun hge => ?_⟩
 ·simp only [decide_eq_true_eq] at hlt
  have hjl : j < s.length := by omega
  have ew := Bj (j := j) (by omega)
  have hm : s.length - (((j + 1 : Nat) : Int)).toNat < s.length - ((j : Nat) : Int).toNat := by omega
  refine ⟨s[j], ⟨by omega, by rw [Int.toNat_natCast, Do, List.getElem?_eq_getElem hjl]⟩, fun hc => ?_, fun hc => ?_⟩
  ·have hc : s[j] = 32 := UInt8.toNat_inj.1 (by simp only [beq_iff_eq] at hc; show _ = (32 : Nat); omega)
   refine ⟨⟨by omega, by omega⟩, ⟨by omega, by omega⟩, fun b9 w10 hal9 => ?_⟩
   rw [Int.toNat_natCast, Int.toNat_natCast, Eb] at hal9
   refine Bh (l2 := [(s.take j).drop k]) Jv ho hal9 rfl rfl hg.size (by simp only [maxLen, List.length_singleton]; omega) (by simp only [List.length_singleton]; omega) ?_
   rintro v w11 ⟨a', n', c', rfl, ho', hu', hb'⟩
   rw [ew]
   refine ⟨_, _, _, rfl, ⟨j + 1, j + 1, pre ++ [(s.take j).drop k], rfl, rfl, Nat.le_refl _, hjl, by simp; omega, fun q h1 h2 => (by omega), ?_, ho', hg.then_own hu' fun b hb => (ho.blk hb).1⟩, hm⟩
   rw [hsp, Kw hkj hjl hc hn]; simp
  ·rw [ew]
   refine ⟨⟨j + 1, k, pre, rfl, rfl, by omega, hjl, by omega, fun q h1 h2 => ?_, hsp, ho, hg⟩, hm⟩
   rcases Nat.lt_or_ge q j with h | h
   ·exact hn q h1 h
   ·have : q = j := by omega
    subst this
    rw [List.getElem?_eq_getElem hjl]
    intro e
    have := Option.some.inj e
    rw [this] at hc; revert hc; decide
 ·simp only [decide_eq_false_iff_not] at hge
  have : j = s.length := by omega
  subst this
  refine ⟨⟨by omega, by omega⟩, fun b14 w15 hal9 => ?_⟩
  rw [Int.toNat_natCast, Eb, List.take_length] at hal9
  refine Bh (l2 := [s.drop k]) Jv ho hal9 rfl rfl hg.size (by simp only [maxLen, List.length_singleton]; omega) (by simp only [List.length_singleton]; omega) ?_
  rintro v w16 ⟨a', n', c', rfl, ho', hu', hb'⟩
  refine ⟨_, _, _, rfl, _, rfl, _, _, _, rfl, ?_, hg.then_own hu' fun b hb => (ho.blk hb).1⟩
  rw [hsp, L5 hn]; exact ho'
theorem Nu {s : L8} {w : World} (hs : s.length ≤ 1000000) : Aa Tryz.prog 22 [.string (bs s)] w (Rets fun v w' => ∃ a n c, v = .slice a n c ∧ Own w' w.heap.size 9 Enc.text a n c (Ad 10 s) ∧ Grew w w') := by
 refine sx22.ok ?_
 unfold sx22
 intro b1 w2 hal
 rw [Ao]
 refine ⟨fun a n c at_ i w' => ∃ (j k : Nat) (pre : List L8), i = j ∧ at_ = k ∧ k ≤ j ∧ j ≤ s.length ∧ pre.length ≤ j ∧ (∀ q, k ≤ q → q < j → s[q]? ≠ some 10) ∧ Ad 10 s = pre ++ Ad 10 (s.drop k) ∧ Own w' w.heap.size 9 Enc.text a n c pre ∧ Grew w w', fun _ _ _ _ i _ => s.length - i.toNat,
  ⟨0, 0, [], rfl, rfl, by omega, Nat.zero_le _, by simp, fun q _ h => (by omega), rfl, Own.alloc (l := []) hal (Nat.le_refl _) rfl (by simp [maxLen]), hal.grew⟩, ?_⟩
 rintro a4 l4 c4 n5 n6 w7 ⟨j, k, pre, rfl, rfl, hkj, hj, hpl, hn, hsp, ho, hg⟩
 refine ⟨fun hlt => ?_, fun hge => ?_⟩
 ·simp only [decide_eq_true_eq] at hlt
  have hjl : j < s.length := by omega
  have ew := Bj (j := j) (by omega)
  have hm : s.length - (((j + 1 : Nat) : Int)).toNat < s.length - ((j : Nat) : Int).toNat := by omega
  refine ⟨s[j], ⟨by omega, by rw [Int.toNat_natCast, Do, List.getElem?_eq_getElem hjl]⟩, fun hc => ?_, fun hc => ?_⟩
  ·have hc : s[j] = 10 := UInt8.toNat_inj.1 (by simp only [beq_iff_eq] at hc; show _ = (10 : Nat); omega)
   refine ⟨⟨by omega, by omega⟩, ⟨by omega, by omega⟩, fun b9 w10 hal9 => ?_⟩
   rw [Int.toNat_natCast, Int.toNat_natCast, Eb] at hal9
   refine Bh (l2 := [(s.take j).drop k]) Jv ho hal9 rfl rfl hg.size (by simp only [maxLen, List.length_singleton]; omega) (by simp only [List.length_singleton]; omega) ?_
   rintro v w11 ⟨a', n', c', rfl, ho', hu', hb'⟩
   rw [ew]
   refine ⟨_, _, _, rfl, ⟨j + 1, j + 1, pre ++ [(s.take j).drop k], rfl, rfl, Nat.le_refl _, hjl, by simp; omega, fun q h1 h2 => (by omega), ?_, ho', hg.then_own hu' fun b hb => (ho.blk hb).1⟩, hm⟩
   rw [hsp, Kw hkj hjl hc hn]; simp
  ·rw [ew]
   refine ⟨⟨j + 1, k, pre, rfl, rfl, by omega, hjl, by omega, fun q h1 h2 => ?_, hsp, ho, hg⟩, hm⟩
   rcases Nat.lt_or_ge q j with h | h
   ·exact hn q h1 h
   ·have : q = j := by omega
    subst this
    rw [List.getElem?_eq_getElem hjl]
    intro e
    have := Option.some.inj e
    rw [this] at hc; revert hc; decide
 ·simp only [decide_eq_false_iff_not] at hge
  have : j = s.length := by omega
  subst this
  refine ⟨⟨by omega, by omega⟩, fun b14 w15 hal9 => ?_⟩
  rw [Int.toNat_natCast, Eb, List.take_length] at hal9
  refine Bh (l2 := [s.drop k]) Jv ho hal9 rfl rfl hg.size (by simp only [maxLen, List.length_singleton]; omega) (by simp only [List.length_singleton]; omega) ?_
  rintro v w16 ⟨a', n', c', rfl, ho', hu', hb'⟩
  refine ⟨_, _, _, rfl, _, rfl, _, _, _, rfl, ?_, hg.then_own hu' fun b hb => (ho.blk hb).1⟩
  rw [hsp, L5 hn]; exact ho'
def askR : Option (Nat × L8) → Value
 | some (k, asks) => .tuple #[.string (bs asks), .int .i64 (k : Int)]
 | none => .tuple #[.string (bs []), .int .i64 0]
theorem L6 {s : L8} {w : World} : Aa Tryz.prog 24 [.string (bs s)] w (Rets fun v w' => v = askR (Bi s) ∧ w' = w) := by
 refine sx24.ok ?_
 unfold sx24
 have step : ∀ {a k : L8} {r : List (L8 × L8)} {i : Nat}, H2 s ((a, k) :: r) i = if a = s then some (i, k) else H2 s r (i + 1) := fun {a k r i} => rfl
 have go : ∀ (o : Option (Nat × L8)), Bi s = o → Rets (fun v w' => v = askR (Bi s) ∧ w' = w) (.returned (askR o)) w := fun o h => ⟨_, rfl, by rw [h], rfl⟩
 have hw : Bi s = H2 s Dx 1 := rfl
 unfold Dx at hw
 rw [step] at hw
 refine ⟨_, B3 (b := [112, 114, 111, 100, 117, 99, 101]), fun h => go (some (1, [110, 117, 118])) (by simp only [decide_eq_true_eq] at h; rw [hw, if_pos h.symm]), fun h => ?_⟩
 simp only [decide_eq_false_iff_not] at h; rw [if_neg (fun e => h e.symm), step] at hw; clear h
 refine ⟨_, B3 (b := [115, 119, 105, 116, 99, 104]), fun h => go (some (2, [110, 107])) (by simp only [decide_eq_true_eq] at h; rw [hw, if_pos h.symm]), fun h => ?_⟩
 simp only [decide_eq_false_iff_not] at h; rw [if_neg (fun e => h e.symm), step] at hw; clear h
 refine ⟨_, B3 (b := [116, 105, 99, 107]), fun h => go (some (3, [])) (by simp only [decide_eq_true_eq] at h; rw [hw, if_pos h.symm]), fun h => ?_⟩
 simp only [decide_eq_false_iff_not] at h; rw [if_neg (fun e => h e.symm), step] at hw; clear h
 refine ⟨_, B3 (b := [100, 101, 108, 105, 118, 101, 114]), fun h => go (some (4, [107])) (by simp only [decide_eq_true_eq] at h; rw [hw, if_pos h.symm]), fun h => ?_⟩
 simp only [decide_eq_false_iff_not] at h; rw [if_neg (fun e => h e.symm), step] at hw; clear h
 refine ⟨_, B3 (b := [100, 114, 111, 112]), fun h => go (some (5, [107])) (by simp only [decide_eq_true_eq] at h; rw [hw, if_pos h.symm]), fun h => ?_⟩
 simp only [decide_eq_false_iff_not] at h; rw [if_neg (fun e => h e.symm), step] at hw; clear h
 refine ⟨_, B3 (b := [99, 111, 112, 121]), fun h => go (some (6, [107])) (by simp only [decide_eq_true_eq] at h; rw [hw, if_pos h.symm]), fun h => ?_⟩
 simp only [decide_eq_false_iff_not] at h; rw [if_neg (fun e => h e.symm), step] at hw; clear h
 refine ⟨_, B3 (b := [99, 117, 116]), fun h => go (some (7, [110, 107])) (by simp only [decide_eq_true_eq] at h; rw [hw, if_pos h.symm]), fun h => ?_⟩
 simp only [decide_eq_false_iff_not] at h; rw [if_neg (fun e => h e.symm), step] at hw; clear h
 refine ⟨_, B3 (b := [99, 114, 97, 115, 104]), fun h => go (some (8, [110])) (by simp only [decide_eq_true_eq] at h; rw [hw, if_pos h.symm]), fun h => ?_⟩
 simp only [decide_eq_false_iff_not] at h; rw [if_neg (fun e => h e.symm), step] at hw; clear h
 refine ⟨_, B3 (b := [114, 101, 115, 116, 97, 114, 116]), fun h => go (some (9, [110])) (by simp only [decide_eq_true_eq] at h; rw [hw, if_pos h.symm]), fun h => ?_⟩
 simp only [decide_eq_false_iff_not] at h; rw [if_neg (fun e => h e.symm), step] at hw; clear h
 refine ⟨_, B3 (b := [113, 117, 101, 114, 121]), fun h => go (some (10, [117])) (by simp only [decide_eq_true_eq] at h; rw [hw, if_pos h.symm]), fun h => ?_⟩
 simp only [decide_eq_false_iff_not] at h; rw [if_neg (fun e => h e.symm), step] at hw; clear h
 refine ⟨_, B3 (b := [114, 111, 117, 110, 100]), fun h => go (some (11, [])) (by simp only [decide_eq_true_eq] at h; rw [hw, if_pos h.symm]), fun h => ?_⟩
 simp only [decide_eq_false_iff_not] at h; rw [if_neg (fun e => h e.symm)] at hw
 exact go none hw
end Go.Proofs.YtbmmaibbiahkkaaGreatDoor
