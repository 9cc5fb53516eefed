/- Hexadecimal digits read, texts cut and trimmed by the library. Conditions: none. -/
import Derived.Test.YtbmmaibbiahkkaaGreatDoorProg
import Derived.Test.YtbmmaibbiahkkaaGreatDoorScrC
namespace Go.Proofs.YtbmmaibbiahkkaaGreatDoor
open Go.Sx
set_option maxRecDepth 100000
set_option linter.unusedVariables false
set_option linter.unusedSimpArgs false
open Go.RowKit
def sx93h (d : ByteArray) (R : Ending → World → Prop) (w : World) : Prop :=
  ∃ b1, Am Tryz.prog (eqS .eql 9 (.tmp 18) (.const (.string (ByteArray.mk (#[]) : ByteArray))) (.string d) (.string (ByteArray.mk (#[]) : ByteArray))) (.bool b1) ∧ ifB b1 (R (.returned (.tuple #[.int .u64 0, .iface 165 (.int .i64 2)])) w) (0 ≤ (IntKind.u64.wrap 64) ∧ ∀ n2 : Int, n2 = IntKind.u64.wrap ((1 : Int) * 2 ^ (min (IntKind.u64.wrap 64).toNat (IntKind.bits .u64))) → SemW Tryz.prog (convert 9 39 (.string d)) (fun u4 w3 => ∃ a5 l5 c5, u4 = .slice a5 l5 c5 ∧ ∃ (I6 : Bool → Int → Int → World → Prop) (m6 : Bool → Int → Int → World → Nat), I6 false 0 0 w3 ∧ ∀ b7 n8 n9 w10, I6 b7 n8 n9 w10 → ifB (decide (n9 < ((l5 : Nat) : Int))) (Ac a5 (fun d11 => (0 ≤ n9 ∧ n9 < (l5 : Nat)) ∧ ∃ n12, w10.cell? (Addr.add d11 (n9.toNat * 1)) = some (.int .u8 n12) ∧ ∃ J13 : Bool → Int → World → Prop, (ifB (n12 == 95) (ifB (decide ((48 : Int) ≤ n12)) (ifB (decide (n12 ≤ 57)) (J13 b7 (IntKind.u8.wrap (n12 - 48)) w10) (Aa Tryz.prog 117 [.int .u8 n12] w10 (RetR R fun u15 w14 => ∃ n16, u15 = .int .u8 n16 ∧ ifB (decide ((97 : Int) ≤ n16)) (Aa Tryz.prog 117 [.int .u8 n12] w14 (RetR R fun u19 w18 => ∃ n20, u19 = .int .u8 n20 ∧ ifB (decide (n20 ≤ 122)) (Aa Tryz.prog 117 [.int .u8 n12] w18 (RetR R fun u23 w22 => ∃ n24, u23 = .int .u8 n24 ∧ ∀ n26 : Int, n26 = IntKind.u8.wrap ((IntKind.u8.wrap (n24 - 97)) + 10) → J13 b7 n26 w22)) (R (.returned (.tuple #[.int .u64 0, .iface 165 (.int .i64 2)])) w18))) (R (.returned (.tuple #[.int .u64 0, .iface 165 (.int .i64 2)])) w14)))) (Aa Tryz.prog 117 [.int .u8 n12] w10 (RetR R fun u28 w27 => ∃ n29, u28 = .int .u8 n29 ∧ ifB (decide ((97 : Int) ≤ n29)) (Aa Tryz.prog 117 [.int .u8 n12] w27 (RetR R fun u32 w31 => ∃ n33, u32 = .int .u8 n33 ∧ ifB (decide (n33 ≤ 122)) (Aa Tryz.prog 117 [.int .u8 n12] w31 (RetR R fun u36 w35 => ∃ n37, u36 = .int .u8 n37 ∧ ∀ n39 : Int, n39 = IntKind.u8.wrap ((IntKind.u8.wrap (n37 - 97)) + 10) → J13 b7 n39 w35)) (R (.returned (.tuple #[.int .u64 0, .iface 165 (.int .i64 2)])) w31))) (R (.returned (.tuple #[.int .u64 0, .iface 165 (.int .i64 2)])) w27)))) (ifB (decide ((48 : Int) ≤ n12)) (ifB (decide (n12 ≤ 57)) (J13 b7 (IntKind.u8.wrap (n12 - 48)) w10) (Aa Tryz.prog 117 [.int .u8 n12] w10 (RetR R fun u41 w40 => ∃ n42, u41 = .int .u8 n42 ∧ ifB (decide ((97 : Int) ≤ n42)) (Aa Tryz.prog 117 [.int .u8 n12] w40 (RetR R fun u45 w44 => ∃ n46, u45 = .int .u8 n46 ∧ ifB (decide (n46 ≤ 122)) (Aa Tryz.prog 117 [.int .u8 n12] w44 (RetR R fun u49 w48 => ∃ n50, u49 = .int .u8 n50 ∧ ∀ n52 : Int, n52 = IntKind.u8.wrap ((IntKind.u8.wrap (n50 - 97)) + 10) → J13 b7 n52 w48)) (R (.returned (.tuple #[.int .u64 0, .iface 165 (.int .i64 2)])) w44))) (R (.returned (.tuple #[.int .u64 0, .iface 165 (.int .i64 2)])) w40)))) (Aa Tryz.prog 117 [.int .u8 n12] w10 (RetR R fun u54 w53 => ∃ n55, u54 = .int .u8 n55 ∧ ifB (decide ((97 : Int) ≤ n55)) (Aa Tryz.prog 117 [.int .u8 n12] w53 (RetR R fun u58 w57 => ∃ n59, u58 = .int .u8 n59 ∧ ifB (decide (n59 ≤ 122)) (Aa Tryz.prog 117 [.int .u8 n12] w57 (RetR R fun
 u62 w61 => ∃ n63, u62 = .int .u8 n63 ∧ ∀ n65 : Int, n65 = IntKind.u8.wrap ((IntKind.u8.wrap (n63 - 97)) + 10) → J13 b7 n65 w61)) (R (.returned (.tuple #[.int .u64 0, .iface 165 (.int .i64 2)])) w57))) (R (.returned (.tuple #[.int .u64 0, .iface 165 (.int .i64 2)])) w53))))) ∧ ∀ b66 n67 w68, J13 b66 n67 w68 → ifB (decide (n67 ≥ IntKind.u8.wrap 16)) (R (.returned (.tuple #[.int .u64 0, .iface 165 (.int .i64 2)])) w68) (ifB (decide (n8 ≥ 1152921504606846976)) (R (.returned (.tuple #[.int .u64 (IntKind.u64.wrap (n2 - 1)), .iface 165 (.int .i64 1)])) w68) (∀ n69 : Int, n69 = IntKind.u64.wrap (n8 * (IntKind.u64.wrap 16)) → ∀ n70 : Int, n70 = IntKind.u64.wrap (n69 + (IntKind.u64.wrap n67)) → ifB (decide (n70 < n69)) (R (.returned (.tuple #[.int .u64 (IntKind.u64.wrap (n2 - 1)), .iface 165 (.int .i64 1)])) w68) (ifB (decide (n70 > IntKind.u64.wrap (n2 - 1))) (R (.returned (.tuple #[.int .u64 (IntKind.u64.wrap (n2 - 1)), .iface 165 (.int .i64 1)])) w68) ((I6 b66 n70 (IntKind.i64.wrap (n9 + 1)) w68 ∧ m6 b66 n70 (IntKind.i64.wrap (n9 + 1)) w68 < m6 b7 n8 n9 w10))))))) (ifB b7 (Aa Tryz.prog 118 [.string d] w10 (RetR R fun u72 w71 => ∃ b73, u72 = .bool b73 ∧ ifB (!b73) (R (.returned (.tuple #[.int .u64 0, .iface 165 (.int .i64 2)])) w71) (R (.returned (.tuple #[.int .u64 n8, .nilIface])) w71))) (R (.returned (.tuple #[.int .u64 n8, .nilIface])) w10))) w)
theorem sx93h.ok {d : ByteArray} {R : Ending → World → Prop} {w : World} (h : sx93h d R w) : Aa Tryz.prog 93 [.string d, .int .i64 16, .int .i64 64] w R :=
 okOf { known := [22, 27, 30, 77, 79, 82, 91, 93], pureTo := [19], sem := [99], named := [96, 133, 147, 151], loops := [(36, { slots := [(12, .bool), (13, .int .u64), (101, .int .i64)], cells := [] })], cuts := [(46, { slots := [(12, .bool), (16, .int .u8)], cells := [] })] } mix Tryz.func93 (by kernel_rfl) (by kernel_rfl) (by kernel_rfl) h
def sx64h (s : ByteArray) (R : Ending → World → Prop) (w : World) : Prop :=
 Aa Tryz.prog 93 [.string s, .int .i64 16, .int .i64 64] w (RetR R fun u2 w1 => ∃ n3 v4, u2 = .tuple #[.int .u64 n3, v4] ∧ ∃ b6, Am Tryz.prog (eqS .neq 76 (.tmp 17) (.const (.nilIface)) (v4) (.nilIface)) (.bool b6) ∧ ifB b6 (Aa Tryz.prog 85 [.string (ByteArray.mk (#[80, 97, 114, 115, 101, 85, 105, 110, 116]) : ByteArray), .string s, .int .i64 16, .int .i64 64, v4] w1 (RetR R fun u8 w7 => ∃ v9, u8 = v9 ∧ R (.returned (.tuple #[.int .u64 n3, v9])) w7)) (R (.returned (.tuple #[.int .u64 n3, .nilIface])) w1))
theorem sx64h.ok {s : ByteArray} {R : Ending → World → Prop} {w : World} (h : sx64h s R w) : Aa Tryz.prog 64 [.string s, .int .i64 16, .int .i64 64] w R :=
 okOf { pureTo := [18], sem := [18] } mix Tryz.func64 (by kernel_rfl) (by kernel_rfl) (by kernel_rfl) h
theorem uErr : Tryz.prog.underlying 76 = some (.interface (Tryz.prog.methodsAt 76)) := by kernel_rfl
theorem L3 {x : Operand} {c : Value} : Am Tryz.prog (eqS .eql 76 x (.const c) .nilIface .nilIface) (.bool true) := fun w => by
 have := run_eql_nil_nil (P := Tryz.prog) (w := w) 76 uErr
 simp only [eqS, eqGuard]; simpa using this
theorem Qg {x : Operand} {c : Value} : Am Tryz.prog (eqS .neq 76 x (.const c) .nilIface .nilIface) (.bool false) := fun w => by
 have := run_neq_nil_nil (P := Tryz.prog) (w := w) 76 uErr
 simp only [eqS, eqGuard]; simpa using this
theorem Kc {x : Operand} {c : Value} {u : TypeId} {p : Value} : Am Tryz.prog (eqS .eql 76 x (.const c) (.iface u p) .nilIface) (.bool false) := fun w => by
 have := run_eql_held_nil (P := Tryz.prog) (w := w) 76 u p uErr
 simp only [eqS, eqGuard]; simpa using this
theorem Kd {c : UInt8} {w : World} (h : 97 ≤ c.toNat ∧ c.toNat ≤ 102) : Aa Tryz.prog 117 [.int .u8 (c.toNat : Int)] w (Rets fun v w' => v = .int .u8 (c.toNat : Int) ∧ Grew w w') :=
 Aa.of_val (entI Tryz.func117 (by kernel_rfl) (by kernel_rfl)) fun w₀ hw => (Tryz.internal_strconv_lower (c.toNat : Int) w₀).mono fun e w' ⟨he, hw'⟩ => ⟨by
  rw [he]
  have : ∀ i : Fin 6, Go.bits .or .u8 ((97 + i.val : Nat) : Int) 32 = ((97 + i.val : Nat) : Int) := by decide +kernel
  have := this ⟨c.toNat - 97, by omega⟩
  simp only at this
  rw [show 97 + (c.toNat - 97) = c.toNat by omega] at this
  rw [this], hw' ▸ Below.refl _ _⟩
theorem Ms : ∀ (l : L8), hexN 0 l < 16 ^ l.length := by
 intro l
 have : ∀ (k : Nat) (l : L8), l.length = k → hexN 0 l < 16 ^ k := by
  intro k
  induction k with
  | zero => intro l h; have := List.eq_nil_of_length_eq_zero h; subst this; decide
  | succ k ih =>
   intro l h
   have hn : l ≠ [] := fun e => by subst e; simp at h
   obtain ⟨i, c, rfl⟩ : ∃ i c, l = i ++ [c] := ⟨_, _, (List.dropLast_concat_getLast hn).symm⟩
   have h1 := ih i (by simpa using h)
   have h2 : (hexV c).getD 0 < 16 := by
    cases hc : hexV c with
    | none => decide
    | some d => exact (Jc hc).1
   rw [Fj, Nat.pow_succ]; omega
 exact this _ l rfl
theorem L4 {c : UInt8} (h : (hexV c).isSome = true) : (48 ≤ c.toNat ∧ c.toNat ≤ 57 ∧ (hexV c).getD 0 = c.toNat - 48) ∨ (97 ≤ c.toNat ∧ c.toNat ≤ 102 ∧ (hexV c).getD 0 = c.toNat - 87) := by
 unfold hexV at h ⊢
 split
 ·rename_i h1; exact .inl ⟨h1.1, h1.2, rfl⟩
 ·split
  ·rename_i h1; exact .inr ⟨h1.1, h1.2, rfl⟩
  ·rename_i h1 h2; rw [if_neg h1, if_neg h2] at h; cases h
theorem G1 (j : Nat) (h : j < 16) : IntKind.i64.wrap ((j : Int) + 1) = ((j + 1 : Nat) : Int) := by rw [IntKind.wrap_i64]; omega
theorem Pr {s : L8} {w : World} (hl : s.length = 16) (hx : ∀ c ∈ s, (hexV c).isSome = true) : Aa Tryz.prog 93 [.string (bs s), .int .i64 16, .int .i64 64] w (Rets fun v w' => v = .tuple #[.int .u64 (hexN 0 s : Int), .nilIface] ∧ Grew w w') := by
 refine sx93h.ok ?_
 unfold sx93h
 refine ⟨_, Ha (b := []), fun h => ?_, fun _ => ⟨by decide, ?_⟩⟩
 ·simp only [decide_eq_true_eq] at h; subst h; simp at hl
 rintro n2 rfl
 have em : IntKind.u64.wrap (IntKind.u64.wrap (1 * 2 ^ (min (IntKind.u64.wrap 64).toNat (IntKind.bits .u64))) - 1) = 18446744073709551615 := by decide +kernel
 have e16 : IntKind.u64.wrap 16 = 16 := by decide
 have e8 : IntKind.u8.wrap 16 = 16 := by decide
 rw [em, e16, e8]
 refine M3 uSt uBy uU8 fun a c w1 hr hg => ⟨_, _, _, rfl, fun b n i w' => ∃ j : Nat, b = false ∧ i = j ∧ j ≤ 16 ∧ n = (hexN 0 (s.take j) : Nat) ∧ Grew w w' ∧ Grew w1 w', fun b n i _ => 16 - i.toNat, ⟨0, rfl, rfl, by omega, by simp [hexN], hg, Grew.refl _⟩, ?_⟩
 rintro b n i w2 ⟨j, rfl, rfl, hj, rfl, hg2, hg12⟩
 refine ⟨fun hlt => ?_, fun hge => ⟨fun h => (by cases h), fun _ => ⟨_, rfl, ?_, hg2⟩⟩⟩
 ·simp only [decide_eq_true_eq] at hlt
  have hj16 : j < 16 := by omega
  have ew := G1 j hj16
  have hji : j < s.length := by omega
  obtain ⟨d, hd, hc⟩ := (hr.grew hg12).1 j (s[j].toNat : Int) (by unfold ints; rw [List.getElem?_map, List.getElem?_eq_getElem hji]; rfl)
  simp only [Enc.int, Ah, and_true] at hc
  change a = some d at hd
  rw [hd, Ac, Int.toNat_natCast]
  refine ⟨⟨by omega, by omega⟩, _, by simpa [Addr.add] using hc, ?_⟩
  have htk : hexN 0 (s.take (j + 1)) = hexN 0 (s.take j) * 16 + (hexV s[j]).getD 0 := by rw [List.take_succ_eq_append_getElem hji, Fj]
  have hlt2 := Ms (s.take (j + 1))
  have hlt1 := Ms (s.take j)
  have hle : (s.take (j + 1)).length ≤ 16 := by rw [List.length_take]; omega
  have hle1 : (s.take j).length ≤ 15 := by rw [List.length_take]; omega
  have hb2 : hexN 0 (s.take (j + 1)) < 18446744073709551616 := Nat.lt_of_lt_of_le hlt2 (by have := Nat.pow_le_pow_right (n := 16) (by decide) hle; simpa using this)
  have hb1 : hexN 0 (s.take j) < 1152921504606846976 := Nat.lt_of_lt_of_le hlt1 (by have := Nat.pow_le_pow_right (n := 16) (by decide) hle1; simpa using this)
  have hv := L4 (hx s[j] (List.getElem_mem _))
  have hwv : (hexV s[j]).getD 0 < 16 := by rcases hv with h | h <;> omega
  have tail : ∀ w3, Grew w w3 → Grew w1 w3 → (fun (b : Bool) (n : Int) w' => b = false ∧ n = ((hexV s[j]).getD 0 : Nat) ∧ Grew w w' ∧ Grew w1 w') false ((hexV s[j]).getD 0 : Nat) w3 := fun w3 h1 h2 => ⟨rfl, rfl, h1, h2⟩
  refine ⟨fun (b : Bool) (n : Int) w' => b = false ∧ n = ((hexV s[j]).getD 0 : Nat) ∧ Grew w w' ∧ Grew w1 w', ?_, ?_⟩
  ·have dgt : 48 ≤ s[j].toNat ∧ s[j].toNat ≤ 57 ∧ (hexV s[j]).getD 0 = s[j].toNat - 48 → IntKind.u8.wrap ((s[j].toNat : Int) - 48) = ((hexV s[j]).getD 0 : Nat) := fun h => by
    rw [IntKind.wrap_u8]; omega
   have ltr : 97 ≤ s[j].toNat ∧ s[j].toNat ≤ 102 ∧ (hexV s[j]).getD 0 = s[j].toNat - 87 → IntKind.u8.wrap (IntKind.u8.wrap ((s[j].toNat : Int) - 97) + 10) = ((hexV s[j]).getD 0 : Nat) := fun h => by
    rw [IntKind.wrap_u8, IntKind.wrap_u8]; omega
   refine ⟨fun h => ?_, fun _ => ?_⟩
   ·simp only [beq_iff_eq] at h; rcases hv with h' | h' <;> omega
   refine ⟨fun h1 => ⟨fun h2 => ?_, fun h2 => ?_⟩, fun h1 => ?_⟩
   ·simp only [decide_eq_true_eq] at h1 h2
    rw [dgt (by rcases hv with h | h; exact h; omega)]
    exact tail _ hg2 hg12
   ·simp only [decide_eq_true_eq, decide_eq_false_iff_not] at h1 h2
    have hq : 97 ≤ s[j].toNat ∧ s[j].toNat ≤ 102 ∧ (hexV s[j]).getD 0 = s[j].toNat - 87 := by rcases hv with h | h; omega; exact h
    refine (Kd ⟨hq.1, hq.2.1⟩).use fun v w3 ⟨hv3, hg3⟩ => ?_
    subst hv3
    refine ⟨_, rfl, fun _ => (Kd ⟨hq.1, hq.2.1⟩).use fun v w4 ⟨hv4, hg4⟩ => ?_, fun h => by simp only [decide_eq_false_iff_not] at h; omega⟩
    subst hv4
    refine ⟨_, rfl, fun _ => (Kd ⟨hq.1, hq.2.1⟩).use fun v w5 ⟨hv5, hg5⟩ => ?_, fun h => by simp only [decide_eq_false_iff_not] at h; omega⟩
    subst hv5
    refine ⟨_, rfl, ?_⟩
    rintro n26 rfl
    rw [ltr hq]
    have hz := hg3.trans (hg4.trans hg5)
    exact tail _ (hg2.trans hz) (hg12.trans hz)
   ·simp only [decide_eq_false_iff_not] at h1; rcases hv with h | h <;> omega
  ·rintro b n w3 ⟨rfl, rfl, hg3, hg13⟩
   refine ⟨fun h => ?_, fun _ => ⟨fun h => ?_, fun _ => ?_⟩⟩
   ·simp only [decide_eq_true_eq] at h; omega
   ·simp only [decide_eq_true_eq] at h; omega
   rintro n69 rfl n70 rfl
   have e1 : IntKind.u64.wrap ((hexN 0 (s.take j) : Int) * 16) = ((hexN 0 (s.take j) * 16 : Nat) : Int) := by rw [IntKind.wrap_u64]; omega
   have e2 : IntKind.u64.wrap (((hexV s[j]).getD 0 : Nat) : Int) = ((hexV s[j]).getD 0 : Nat) := by rw [IntKind.wrap_u64]; omega
   rw [e1, e2]
   have e3 : IntKind.u64.wrap (((hexN 0 (s.take j) * 16 : Nat) : Int) + ((hexV s[j]).getD 0 : Nat)) = ((hexN 0 (s.take (j + 1)) : Nat) : Int) := by rw [IntKind.wrap_u64, htk]; rw [htk] at hb2; omega
   rw [e3]
   refine ⟨fun h => ?_, fun _ => ⟨fun h => ?_, fun _ => ⟨⟨j + 1, rfl, ew, by omega, rfl, hg3, hg13⟩, by show 16 - (IntKind.i64.wrap ((j : Int) + 1)).toNat < 16 - ((j : Int)).toNat; rw [ew, Int.toNat_natCast, Int.toNat_natCast]; clear e1 e2 e3 hb1 hb2 hlt1 hlt2; omega⟩⟩⟩
   ·simp only [decide_eq_true_eq] at h; rw [htk] at h; omega
   ·simp only [decide_eq_true_eq] at h; omega
 ·simp only [decide_eq_false_iff_not] at hge
  have : j = 16 := by omega
  subst this
  rw [← hl, List.take_length]
theorem K9 {s : L8} {w : World} (hl : s.length = 16) (hx : ∀ c ∈ s, (hexV c).isSome = true) : Aa Tryz.prog 64 [.string (bs s), .int .i64 16, .int .i64 64] w (Rets fun v w' => v = .tuple #[.int .u64 (hexN 0 s : Int), .nilIface] ∧ Grew w w') := by
 refine sx64h.ok ?_
 unfold sx64h
 refine (Pr hl hx).use fun v w1 ⟨hv, hg⟩ => ?_
 subst hv
 exact ⟨_, _, rfl, _, Qg, fun h => (by cases h), fun _ => ⟨_, rfl, rfl, hg⟩⟩
end Go.Proofs.YtbmmaibbiahkkaaGreatDoor
