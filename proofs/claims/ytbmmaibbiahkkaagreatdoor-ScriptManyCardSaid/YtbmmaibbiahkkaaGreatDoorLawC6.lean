/- ScriptMany: what it computes. Conditions: none. -/
import Derived.Test.YtbmmaibbiahkkaaGreatDoorProg
import Derived.Test.YtbmmaibbiahkkaaGreatDoorScrN
import Derived.Test.YtbmmaibbiahkkaaGreatDoorScrO
import Derived.Test.YtbmmaibbiahkkaaGreatDoorKindsP
import Derived.Test.YtbmmaibbiahkkaaGreatDoorSxSj
import Derived.Test.YtbmmaibbiahkkaaGreatDoorRows
import Derived.Test.YtbmmaibbiahkkaaGreatDoorTie
import Derived.Test.YtbmmaibbiahkkaaGreatDoorCards
import Derived.SevenTiedAt
import Derived.Stop.Joined
import Derived.ChangeMaps5
namespace Go.Proofs.YtbmmaibbiahkkaaGreatDoor
open Go.Sx
set_option maxRecDepth 100000
set_option linter.unusedVariables false
set_option linter.unusedSimpArgs false
def sx8 (d : ByteArray) (i : Int) (R : Ending → World → Prop) (w : World) : Prop :=
  Aa Tryz.prog 10 [] w (RetR R fun u2 w1 => ∃ b3, u2 = .bool b3 ∧ ifB (!b3) (R (.returned (.bool false)) w1) (∃ (I5 : Int → World → Prop) (m5 : Int → World → Nat), I5 0 w1 ∧ ∀ n6 w7, I5 n6 w7 → ifB (decide (n6 < ((ByteArray.size d : Nat) : Int))) (∃ (b8 : UInt8), (0 ≤ n6 ∧ (d).data[n6.toNat]? = some b8) ∧ ifB ((b8.toNat : Int) == 10) (R (.returned (.bool true)) w7) ((I5 (IntKind.i64.wrap (n6 + 1)) w7 ∧ m5 (IntKind.i64.wrap (n6 + 1)) w7 < m5 n6 w7))) (∃ b9, Aj Tryz.prog (eqS .eql 9 (.tmp 28) (.const (.string (ByteArray.mk (#[]) : ByteArray))) (.string d) (.string (ByteArray.mk (#[]) : ByteArray))) (.bool b9) ∧ ifB b9 (R (.returned (.bool true)) w7) (∃ (b10 : UInt8), (0 ≤ (0 : Int) ∧ (d).data[(0 : Int).toNat]? = some b10) ∧ ifB ((b10.toNat : Int) == 35) (R (.returned (.bool true)) w7) (ifB (decide (((ByteArray.size d : Nat) : Int) > 1000)) (R (.returned (.bool true)) w7) (∀ b11 w12, As w7 w12 b11 (.cells #[.int .u8 112, .int .u8 108, .int .u8 97, .int .u8 110, .int .u8 32, .int .u8 49, .int .u8 32, .int .u8 49, .int .u8 32, .int .u8 49, .int .u8 32, .int .u8 50, .int .u8 32, .int .u8 52, .int .u8 32, .int .u8 50, .int .u8 32, .int .u8 56, .int .u8 10] 5) → SemW Tryz.prog (convert 39 39 (.slice (some ⟨b11, 0, none⟩) 19 19)) (fun u14 w13 => ∃ a15 l15 c15, u14 = .slice a15 l15 c15 ∧ ∃ (I16 : Option Addr → Nat → Nat → Int → World → Prop) (m16 : Option Addr → Nat → Nat → Int → World → Nat), I16 a15 l15 c15 0 w13 ∧ ∀ a17 l17 c17 n18 w19, I16 a17 l17 c17 n18 w19 → ifB (decide (n18 < 4096)) (SemW Tryz.prog (Builtin.append_ #[39, 9] 39 #[.slice a17 l17 c17, .string (ByteArray.mk (#[116, 105, 99, 107, 10]) : ByteArray)]) (fun u21 w20 => ∃ a22 l22 c22, u21 = .slice a22 l22 c22 ∧ (I16 a22 l22 c22 (IntKind.i64.wrap (n18 + 1)) w20 ∧ m16 a22 l22 c22 (IntKind.i64.wrap (n18 + 1)) w20 < m16 a17 l17 c17 n18 w19)) w19) (SemW Tryz.prog (convert 39 9 (.slice a17 l17 c17)) (fun u24 w23 => ∃ s25, u24 = .string s25 ∧ Aa Tryz.prog 11 [.string s25] w23 (RetR R fun u27 w26 => ∃ n28 n29 n30 a31 l31 c31 n32 n33 n34 n35 a36 l36 c36 n37 n38, u27 = .tuple #[.agg #[.int .i64 n28, .int .i64 n29, .int .i64 n30, .slice a31 l31 c31, .int .i64 n32, .int .i64 n33, .int .i64 n34, .int .i64 n35], .slice a36 l36 c36, .int .i64 n37, .int .i64 n38] ∧ ∀ w40, Grew w26 w40 → ifB (n38 != 0) (R (.returned (.bool false)) w40) (ifB (n37 != 0) (R (.returned (.bool false)) w40) (ifB (((l36 : Nat) : Int) != 4096) (R (.returned (.bool false)) w40) (SemW Tryz.prog (convert 39 9 (.slice a17 l17 c17)) (fun u42 w41 => ∃ s43, u42 = .string s43 ∧ ∃ s44, Aj Tryz.prog (eqS .add 9 (.tmp 69) (.const (.string (ByteArray.mk (#[10]) : ByteArray))) (.string s43) (.string (ByteArray.mk (#[10]) : ByteArray))) (.string s44) ∧ ∃ s45, Aj Tryz.prog (eqS .add 9 (.tmp 70) (.tmp 71) (.string s44) (.string d)) (.string s45) ∧ ∃ s46, Aj Tryz.prog (eqS .add 9 (.tmp 72) (.const (.string (ByteArray.mk (#[10]) : ByteArray))) (.string s45) (.string (ByteArray.mk (#[10]) : ByteArray))) (.string s46) ∧ Aa Tryz.prog 11
 [.string s46] w41 (RetR R fun u48 w47 => ∃ n49 n50 n51 a52 l52 c52 n53 n54 n55 n56 a57 l57 c57 n58 n59, u48 = .tuple #[.agg #[.int .i64 n49, .int .i64 n50, .int .i64 n51, .slice a52 l52 c52, .int .i64 n53, .int .i64 n54, .int .i64 n55, .int .i64 n56], .slice a57 l57 c57, .int .i64 n58, .int .i64 n59] ∧ ∀ w61, Grew w47 w61 → ifB (n59 != 212) (R (.returned (.bool false)) w61) (ifB (n58 != 4099) (R (.returned (.bool false)) w61) (ifB (((l57 : Nat) : Int) != 0) (R (.returned (.bool false)) w61) (∀ b62 w63, As w61 w63 b62 (.cells #[.int .i64 3, .int .i64 0, .int .i64 0, .int .u64 0, .float .f64 0] 46) → SemW Tryz.prog (Builtin.append_ #[26, 26] 26 #[.slice a36 l36 c36, .slice (some ⟨b62, 0, none⟩) 1 1]) (fun u65 w64 => ∃ a66 l66 c66, u65 = .slice a66 l66 c66 ∧ Aa Tryz.prog 15 [.agg #[.int .i64 i, .int .i64 0, .int .i64 0, .slice none 0 0, .int .i64 0, .int .i64 0, .int .i64 0, .int .i64 0], .slice a66 l66 c66] w64 (RetR R fun u68 w67 => ∃ s69 n70, u68 = .tuple #[.string s69, .int .i64 n70] ∧ ∃ b72, Aj Tryz.prog (eqS .eql 9 (.tmp 100) (.const (.string (ByteArray.mk (#[]) : ByteArray))) (.string s69) (.string (ByteArray.mk (#[]) : ByteArray))) (.bool b72) ∧ ifB b72 (R (.returned (.bool (n70 == 212))) w67) (R (.returned (.bool false)) w67))) w63))))) w40))))) w19)) w12))))))
theorem sx8.ok {d : ByteArray} {i : Int} {R : Ending → World → Prop} {w : World} (h : sx8 d i R w) : Aa Tryz.prog 8 [.string d, .int .i64 i] w R :=
 okOf { locals := [8, 12], pureTo := [29, 70, 72, 73, 101], sem := [41, 47, 50, 69, 96], loops := [(4, { slots := [(5, .int .i64)], cells := [] }), (12, { slots := [(6, .slice), (7, .int .i64)], cells := [] })] } mix Tryz.func8 (by kernel_rfl) (by kernel_rfl) (by kernel_rfl) h
def Eg : L8 := [112, 108, 97, 110, 32, 49, 32, 49, 32, 49, 32, 50, 32, 52, 32, 50, 32, 56, 10]
def Dh (j : Nat) : L8 := (List.replicate j [116, 105, 99, 107, 10]).flatten
def Hf : ScrP := ⟨1, 1, 1, 2, 4, 2, 8, []⟩
def Fl : Ag := ⟨3, 0, 0, ⟨0, 0⟩⟩
theorem Jw : ScrP.Fits Hf := ⟨by decide, fun o ho => by simp [Hf] at ho⟩
theorem Jx : Fl.Fits := by
 refine ⟨⟨?_, ?_⟩, ⟨?_, ?_⟩, ⟨?_, ?_⟩, ⟨?_, ?_⟩, ?_⟩ <;> decide
theorem G0 (j : Nat) : (Dh j).length = 5 * j := by
 unfold Dh
 induction j with
 | zero => rfl
 | succ j ih => rw [List.replicate_succ, List.flatten_cons, List.length_append, ih]; simp; omega
theorem L9 (j : Nat) : Dh (j + 1) = Dh j ++ [116, 105, 99, 107, 10] := by
 unfold Dh; rw [List.replicate_succ', List.flatten_append]; simp
theorem Iy : ∀ j, A6 (List.replicate j Fl) = .ok (Dh j)
 | 0 => rfl
 | j + 1 => by
  rw [List.replicate_succ]
  simp only [A6, show Go.Sx.stepT Fl = .ok [116, 105, 99, 107] from by kernel_rfl, Iy j]
  unfold Dh; rw [List.replicate_succ]; simp
theorem Iz : Bv Hf (List.replicate 4096 Fl) = .ok (Eg ++ Dh 4096) := by
 have e : De Hf ++ opsT Hf.ops = Eg := by kernel_rfl
 have hl : Eg.length = 19 := rfl
 unfold Bv
 rw [if_neg (by rw [List.length_replicate]; omega), Iy]
 simp only
 rw [← List.append_assoc, e, if_neg (by rw [List.length_append, G0, hl]; omega)]
theorem I0 : ∀ s ∈ List.replicate 4096 Fl, s.Fits := fun s h => by rw [(List.mem_replicate.1 h).2]; exact Jx
theorem I8 {word : L8} {over : Int} {w : World} (hG : Glob w) (hwl : word.length ≤ maxLen) (hov : (Lit.int .i64 over).wf = true) :
  Aa Tryz.prog 8 [.string (bs word), .int .i64 over] w (Rets fun v w' => v = .bool true ∧ Grew w w') := by
 refine sx8.ok ?_
 unfold sx8
 rw [Ay]
 refine (Ot hG).use fun v w1 ⟨hv, hg1⟩ => ?_
 subst hv
 refine ⟨_, rfl, fun h => (by cases h), fun _ => ?_⟩
 refine ⟨fun n w' => ∃ j : Nat, n = j ∧ j ≤ word.length ∧ (10 : UInt8) ∉ word.take j ∧ Grew w w', fun n _ => word.length - n.toNat, ⟨0, rfl, Nat.zero_le _, by simp, hg1⟩, ?_⟩
 rintro n6 w7 ⟨j, rfl, hj, h10, hg7⟩
 refine ⟨fun hlt => ?_, fun hge => ?_⟩
 ·simp only [decide_eq_true_eq] at hlt
  have hjl : j < word.length := by omega
  refine ⟨word[j], ⟨by omega, by rw [J6, Int.toNat_natCast, List.getElem?_eq_getElem hjl]⟩, fun _ => ⟨_, rfl, rfl, hg7⟩, fun hne => ?_⟩
  have hx : word[j] ≠ 10 := fun e => by rw [e] at hne; revert hne; decide
  rw [Fz (by have e : maxLen = 9223372036854775807 := rfl; omega)]
  refine ⟨⟨j + 1, rfl, hjl, ?_, hg7⟩, ?_⟩
  ·rw [List.take_succ_eq_append_getElem hjl]
   simp only [List.mem_append, List.mem_singleton, not_or]
   exact ⟨h10, fun e => hx e.symm⟩
  ·show word.length - (((j + 1 : Nat) : Int)).toNat < word.length - ((j : Nat) : Int).toNat; omega
 simp only [decide_eq_false_iff_not] at hge
 have : j = word.length := by omega
 subst this
 rw [List.take_length] at h10
 refine ⟨_, Fg (b := []), fun _ => ⟨_, rfl, rfl, hg7⟩, fun hne => ?_⟩
 obtain ⟨c0, wr, rfl⟩ : ∃ c0 wr, word = c0 :: wr := by
  cases hw : word with
  | nil => rw [hw] at hne; simp at hne
  | cons x y => exact ⟨x, y, rfl⟩
 refine ⟨c0, ⟨by omega, by rw [J6]; rfl⟩, fun _ => ⟨_, rfl, rfl, hg7⟩, fun h35 => ⟨fun _ => ⟨_, rfl, rfl, hg7⟩, fun h1000 => ?_⟩⟩
 simp only [gt_iff_lt, decide_eq_false_iff_not] at h1000
 have hsk : Co (c0 :: wr) = false := by
  show (c0 == 35) = false
  rw [beq_eq_false_iff_ne]; intro e; rw [e] at h35; revert h35; decide
 generalize hwd : c0 :: wr = word at *
 intro b11 w12 hal
 refine Nb uBy uU8 hal.at_ fun w13 hm13 hu13 => ⟨_, _, _, rfl, ?_⟩
 have hg13 : Grew w w13 := (hg7.trans hal.grew).then_own hu13 fun b hb => by have := hal.new; have := hg7.size; omega
 refine ⟨fun a n c i w' => Grew w w' ∧ ((i = 0 ∧ a = some ⟨b11, 0, none⟩ ∧ n = 19 ∧ c = 19 ∧ w' = w13) ∨ ∃ j : Nat, i = j ∧ 0 < j ∧ j ≤ 4096 ∧ Buf w' w.heap.size a n c (Eg ++ Dh j)), fun _ _ _ i _ => 4096 - i.toNat, ⟨hg13, .inl ⟨rfl, rfl, rfl, rfl, rfl⟩⟩, ?_⟩
 rintro a17 l17 c17 n18 w19 ⟨hg19, hst⟩
 refine ⟨fun hlt => ?_, fun hge => ?_⟩
 ·simp only [decide_eq_true_eq] at hlt
  rcases hst with ⟨rfl, rfl, rfl, rfl, rfl⟩ | ⟨j, rfl, hj0, hj, hbf⟩
  ·refine Hh (l := ints Eg) (s := [116, 105, 99, 107, 10]) uBy uSt iU8 rfl (fun j v hj => ?_) (by simp) (by decide) fun b c' w' hb ho hg => ⟨_, _, _, rfl, ⟨hg19.trans hg, .inr ⟨1, rfl, by omega, by omega, ?_⟩⟩, ?_⟩
   ·rw [Bl, Nat.zero_add, cell_of_block hm13]; exact hj
   ·have e : ints Eg ++ ints [116, 105, 99, 107, 10] = ints (Eg ++ Dh 1) := by rw [← Ii]; rfl
    rw [e] at ho
    exact ho.base (Nat.le_trans hg19.size hb)
   ·show 4096 - (IntKind.i64.wrap ((0 : Int) + 1)).toNat < 4096 - (0 : Int).toNat; decide
  have hjl : j < 4096 := by omega
  refine Ph (s := [116, 105, 99, 107, 10]) hbf hg19 (by simp only [List.length_append, G0]; simp [Eg]; omega) fun a22 n22 c22 w20 hb20 hg20 _ => ⟨_, _, _, rfl, ?_⟩
  rw [Fz (by omega)]
  refine ⟨⟨hg20, .inr ⟨j + 1, rfl, by omega, hjl, by rw [L9, ← List.append_assoc]; exact hb20⟩⟩, ?_⟩
  show 4096 - (((j + 1 : Nat) : Int)).toNat < 4096 - ((j : Nat) : Int).toNat; omega
 obtain ⟨j, rfl, hj0, hj, hbf⟩ : ∃ j : Nat, n18 = j ∧ 0 < j ∧ j ≤ 4096 ∧ Buf w19 w.heap.size a17 l17 c17 (Eg ++ Dh j) := by
  rcases hst with ⟨rfl, -⟩ | h
  ·cases hge
  ·exact h
 simp only [decide_eq_false_iff_not] at hge
 have : j = 4096 := by omega
 subst this
 have hTl : (Eg ++ Dh 4096).length = 20499 := by rw [List.length_append, G0]; rfl
 obtain ⟨ls, hT, hls, -, hgo, hlen, -, -⟩ := Hc Jw I0 Iz
 have hstr : ∀ {w' : World} {k : Value → World → Prop}, Grew w19 w' → k (.string (bs (Eg ++ Dh 4096))) w' → SemW Tryz.prog (convert 39 9 (.slice a17 l17 c17)) k w' := fun hg hk => Ib uBy uU8 uSt (hbf.grew hg).reads (by rw [Gw]; exact hk)
 have hback := back Jw I0 Iz
 generalize hTT : Eg ++ Dh 4096 = T at *
 refine hstr (Grew.refl _) ⟨_, rfl, (E1 (t := T) (hG.grew hg19)).use fun v w26 ⟨hv, hg26⟩ => ?_⟩
 rw [hback] at hv
 obtain ⟨o, s, rfl, ho, hs⟩ := D3 hv
 have hsl : s.2.1 = 4096 := by rw [hs.len]; simp [pL]
 refine ⟨_, _, _, _, _, _, _, _, _, _, _, _, _, _, _, rfl, fun w40 hg40 => ⟨fun h => (by cases h), fun _ => ⟨fun h => (by cases h), fun _ => ⟨fun h => ?_, fun _ => ?_⟩⟩⟩⟩
 ·rw [hsl] at h; cases h
 have hg40' := hg19.trans (hg26.trans hg40)
 refine hstr (hg26.trans hg40) ⟨_, rfl, _, C4 (b := [10]) (by simp only [List.length_cons, List.length_nil]; omega), _, C4 (by simp only [List.length_append, List.length_cons, List.length_nil]; omega), _, C4 (b := [10]) (by simp only [List.length_append, List.length_cons, List.length_nil]; omega), (E1 (t := T ++ [10] ++ word ++ [10]) (hG.grew hg40')).use fun v w47 ⟨hv, hg47⟩ => ?_⟩
 have hP : Bp (T ++ [10] ++ word ++ [10]) = .error (212, 4099) := by
  have hz : Ad 10 ([10] ++ word ++ [10]) = [[], word, []] := by
   have e : [10] ++ word ++ [10] = Ba [[], word] ++ [] := by simp [Ba]
   rw [e, B7]
   ·rfl
   ·intro l hl
    simp only [List.mem_cons, List.mem_nil_iff, or_false] at hl
    rcases hl with rfl | rfl
    ·simp
    ·exact h10
  have e2 : T ++ [10] ++ word ++ [10] = Ba ls ++ ([10] ++ word ++ [10]) := by rw [hT]; simp
  rw [e2, Kj (fun l hl => (hls l hl).1) (hgo 0) (by rw [← hT]; simp only [List.length_append, List.length_cons, List.length_nil]; omega), hz]
  simp only [An]
  rw [show Co [] = true from rfl, hsk, L6 (l := word) (p := Hf) (steps := List.replicate 4096 Fl) (by simp)]
  simp only [if_true, Bool.false_eq_true, if_false]
  rw [hlen]; simp only [List.length_replicate]; rfl
 rw [hP] at hv
 obtain ⟨o2, s2, rfl, ho2, hs2⟩ := D3 hv
 have hs20 : s2.2.1 = 0 := hs2.len
 refine ⟨_, _, _, _, _, _, _, _, _, _, _, _, _, _, _, rfl, fun w61 hg61 => ⟨fun h => (by cases h), fun _ => ⟨fun h => (by cases h), fun _ => ⟨fun h => ?_, fun _ b62 w63 hal62 => ?_⟩⟩⟩⟩
 ·rw [hs20] at h; cases h
 have hgs := hg40.trans (hg47.trans hg61)
 have hg63 : Grew w w63 := (hg40'.trans (hg47.trans hg61)).trans hal62.grew
 have hg61' := hg40'.trans (hg47.trans hg61)
 have hlr : (pL (.ok (Hf, List.replicate 4096 Fl) : Except (Int × Nat) (ScrP × List Ag))).length = 4096 := by simp [pL]
 refine D8 (l2 := [Fl]) Po (hs.grew hgs) hal62 rfl rfl (hg26.trans hgs).size (by rw [hlr]; decide) (by rw [hlr]; decide) ?_
 rintro v w64 ⟨a', n', c', rfl, ho', hu', hb'⟩
 have hg64 : Grew w w64 := (hg40'.trans (hg47.trans hg61)).then_own hu' fun b hb => Nat.le_trans hg19.size (hs.blk hb).1
 refine ⟨_, _, _, rfl, (Lf (p := ⟨over, 0, 0, 0, 0, 0, 0, []⟩) (o := (none, 0, 0)) (hG.grew hg64) ⟨?_, fun o ho => by simp at ho⟩ ?_ Reads.nil ho'.reads).use fun v w67 ⟨hv, hg67⟩ => ?_⟩
 ·simp [Lit.wf, IntKind.min, IntKind.max, IntKind.signed, IntKind.bits] at hov
  intro z hz
  simp only [List.mem_cons, List.mem_nil_iff, or_false] at hz
  omega
 ·intro x hx
  rcases List.mem_append.1 hx with hx | hx
  ·exact I0 x hx
  ·simp only [List.mem_singleton] at hx; subst hx; exact Jx
 have hpe : Bv ⟨over, 0, 0, 0, 0, 0, 0, []⟩ (pL (.ok (Hf, List.replicate 4096 Fl) : Except (Int × Nat) (ScrP × List Ag)) ++ [Fl]) = .error 212 := by
  unfold Bv; rw [if_pos (by rw [List.length_append, hlr]; decide)]
 rw [hpe] at hv
 subst hv
 exact ⟨_, _, rfl, _, Fg (a := []) (b := []), fun _ => ⟨_, rfl, rfl, hg64.trans hg67⟩, fun h => by simp at h⟩
open Go.ChangeShapes Go.WideShapes Go.ChangeAt Go.RowKit
set_option maxRecDepth 100000 in
theorem scriptMany_lifted (os : Os) (started : os.Started) (H : Type) (enc : TypeId × Value → H) :
  ReturnsInHanded {} Tryz.checked os 8 .any (fun w args => (Rows.scriptManySpec.pre enc Tryz.prog Tryz.f8 Rows.scriptManyRow.domain false w args ∧ laidMetH Tryz.prog Ix w) ∧ sizedMet enc Tryz.prog Tryz.f8 (OpenSpec.ofChange Rows.scriptManySpec) false w args) (Rows.scriptManySpec.post enc Tryz.prog Tryz.f8 false true false false) := by
 refine returnsInHanded_of_change_and (C := Tryz.checked) (X := fun w _ => laidMetH Tryz.prog Ix w) (fun _ _ _ hh h => h.of_heap hh) own started (by kernel_rfl) Tryz.func8
  (ChangeSpec.witness_shaped (enc := enc) (C := Tryz.checked) (os := os) (X := fun w _ => laidMetH Tryz.prog Ix w) false (World.laidAll Tryz.prog os Ix) #[.string ⟨#[]⟩, .int .i64 0] 8 (World.laidAll_os _ _ _)
   (World.shaped_of_ZipB (by kernel_rfl) (by kernel_rfl)) (by kernel_rfl) (by kernel_rfl) (by kernel_rfl) (Ou os _)) ?_
 intro W base args ds gs before hval0 hW hcnd hsz0 hL0 _
 have hL := Pi hL0
 have hval : ∀ (j : Nat) t v, Tryz.f8.params[j]? = some t → args[j]? = some v → Value.okWide Tryz.prog W .any base t v := hval0
 have hW' := hW
 obtain ⟨p, q, hA0, hV, rfl, hfz, hnd⟩ := hW
 have hA : DataW.TrodAll enc Tryz.prog W 0 (fun _ => true) true Tryz.f8.params.toList args.toList ds p := hA0
 have hsz : (DataW.weightsEach Tryz.prog (Tryz.f8.params.toList ++ _) (ds ++ gs)).all (· ≤ reachBytes) = true := hsz0
 rw [show Tryz.f8.params = #[9, 3] from by kernel_rfl] at hA hval hsz
 have hA1 := hA
 obtain ⟨v0, vs0, d0, ds0, p0, q0, hargs, rfl, rfl, h0, r0⟩ := trodAll_cons hA
 obtain ⟨v1, vs1, d1, ds1, p1, q1, rfl, rfl, rfl, h1, r1⟩ := trodAll_cons r0
 obtain ⟨rfl, rfl, rfl⟩ := trodAll_nil r1
 obtain rfl : args = #[v0, v1] := by cases args; simp_all
 obtain ⟨s0, rfl, -, -, hz0⟩ := Go.ChangeMaps.open_string (P := Tryz.prog) (t := 9) (by kernel_rfl) (hval 0 9 v0 rfl rfl) h0
 obtain ⟨t0, rfl⟩ := Pl s0
 have hy0 : t0.length ≤ maxLen := by simpa using hz0
 obtain ⟨x1, rfl, hcl1⟩ := Go.Sx.open_int (P := Tryz.prog) (k := .i64) (t := 3) (by kernel_rfl) (hval 1 3 v1 rfl rfl) h1
 clear hA0 hA1 hval0 hsz0
 refine (Aa.calls ⟨_, Tryz.func8, by kernel_rfl, by kernel_rfl⟩ (I8 hL hy0 hcl1)).mono fun e W' ⟨w', hh, hk, v, he, hv, hg⟩ => ?_
 subst he; subst hv
 exact ⟨_, rfl, Mr (tb := 4) (by kernel_rfl) rfl (by kernel_rfl) (by kernel_rfl) ⟨rfl, rfl, rfl⟩ (by decide +kernel) hW' (Nm hg hh hk)⟩
theorem G1 : Rows.ScriptManySaid :=
 OpenClaim.holds_of_wide 8 Tryz.f8 rfl rfl rfl rfl rfl rfl rfl ⟨rfl, rfl, rfl, rfl, rfl⟩ rfl rfl rfl rfl rfl (by kernel_rfl) Tryz.func8 (by kernel_rfl)
  (of_decide_eq_true (by kernel_rfl)) (by unfold Func.isWrapper; first | (rw [if_pos (by decide +kernel)]; kernel_rfl) | (rw [if_neg (by decide +kernel)]; exact ⟨rfl, rfl⟩))
  (fun os started H enc _ => scriptMany_lifted os started H enc)
theorem scriptMany_card : Rows.ScriptManyCardSaid :=
 Claim7.holds_tied_plain_at .later [] [.data, .data, .data, .data, .sentinel, .sentinel, .pinned] true (true, "b64c46686f643c001f31f6c1b533c0d7c0642b988dd47f138c5c01a8a4cb7604") true G1 (fun _ h => by cases h) (by kernel_rfl) (fun _ h => by cases h) scriptMany_row_tie rfl ⟨rfl, rfl⟩ (by kernel_rfl) rfl
  (fun f fn hf hfn => by
   obtain rfl : f = 8 := Option.some.inj ((show Tryz.prog.funcNamed "reprise/repriselaw21.ScriptMany" = some 8 by kernel_rfl).symm.trans hf) |>.symm
   obtain rfl : fn = Tryz.f8 := (Option.some.inj (Tryz.func8.symm.trans hfn)).symm
   exact ⟨by kernel_rfl, fun j t ht => by
    rw [show Tryz.f8.params = #[9, 3] from by kernel_rfl] at ht
    have hm : t ∈ [9, 3] := by simpa using Array.mem_of_getElem? ht
    have hall : ([9, 3].all fun u => !Tryz.prog.wantsStandIn u) = true := by kernel_rfl
    exact (show Tryz.prog.wantsStandIn t = false by simpa using List.all_eq_true.1 hall t hm)⟩)
  (by kernel_rfl)
end Go.Proofs.YtbmmaibbiahkkaaGreatDoor
