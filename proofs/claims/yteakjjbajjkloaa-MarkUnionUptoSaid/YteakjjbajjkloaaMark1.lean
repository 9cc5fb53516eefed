/- What mark's within, Rising, Sound and Encode hand back. Conditions: none. -/
import Derived.Test.YteakjjbajjkloaaProg
import Derived.Test.YteakjjbajjkloaaSlicesN_U
import Derived.Test.YteakjjbajjkloaaSlices
import Derived.Test.YteakjjbajjkloaaBytesE
namespace Go.Proofs.Yteakjjbajjkloaa
open Go.Sx
set_option maxRecDepth 100000
set_option linter.unusedVariables false
set_option linter.unusedSimpArgs false
/- reprise/mark.within -/
def sx33 (n : Int) (R : Ending → World → Prop) (w : World) : Prop :=
  (((decide (n ≥ 0)) = true → R (.returned (.bool (decide (n ≤ 1099511627776)))) w) ∧ ((decide (n ≥ 0)) = false → R (.returned (.bool false)) w))
theorem sx33.ok {n : Int} {R : Ending → World → Prop} {w : World} (h : sx33 n R w) : CallsW Try.prog 33 [.int .i64 n] w R :=
  callsW_of mix Try.func33 (by kernel_rfl) (by kernel_rfl) (Eq.mpr (by kernel_rfl : denFn Try.prog {} Try.f33 [.int .i64 n] R w = sx33 n R w) h)

/- reprise/mark.Rising -/
def sx26 (keys : Option Addr) (keys_n keys_c : Nat) (R : Ending → World → Prop) (w : World) : Prop :=
  ∃ (I1 : Int → World → Prop) (m1 : Int → World → Nat), I1 0 w ∧ ∀ (n2 : Int) (w3 : World), I1 n2 w3 → (((decide (n2 < ((keys_n : Nat) : Int))) = true → withSome keys (fun d4 => (0 ≤ n2 ∧ n2 < (keys_n : Nat)) ∧ ∃ (n5 :
    Int), w3.cell? (Addr.add d4 (n2.toNat * 1)) = some (.int .u64 n5) ∧ (((decide (n2 > 0)) = true → withSome keys (fun d6 => (0 ≤ (IntKind.i64.wrap (n2 - 1)) ∧ (IntKind.i64.wrap (n2 - 1)) < (keys_n : Nat)) ∧ ∃ (n7 :
    Int), w3.cell? (Addr.add d6 ((IntKind.i64.wrap (n2 - 1)).toNat * 1)) = some (.int .u64 n7) ∧ (((decide (n5 ≤ n7)) = true → R (.returned (.bool false)) w3) ∧ ((decide (n5 ≤ n7)) = false → (I1 (IntKind.i64.wrap (n2 +
    1)) w3 ∧ m1 (IntKind.i64.wrap (n2 + 1)) w3 < m1 n2 w3))))) ∧ ((decide (n2 > 0)) = false → (I1 (IntKind.i64.wrap (n2 + 1)) w3 ∧ m1 (IntKind.i64.wrap (n2 + 1)) w3 < m1 n2 w3))))) ∧ ((decide (n2 < ((keys_n : Nat) :
    Int))) = false → R (.returned (.bool true)) w3))
theorem sx26.ok {keys : Option Addr} {keys_n keys_c : Nat} {R : Ending → World → Prop} {w : World} (h : sx26 keys keys_n keys_c R w) : CallsW Try.prog 26 [.slice keys keys_n keys_c] w R :=
  callsW_of mix Try.func26 (by kernel_rfl) (by kernel_rfl) (Eq.mpr (by kernel_rfl : denFn Try.prog { loops := [(2, { slots := [(7, .int .i64)], cells := [] })] } Try.f26 [.slice keys keys_n keys_c] R w = sx26 keys keys_n keys_c R w) h)

/- reprise/mark.Sound -/
def sx14 (m_0 : Int) (m_1 : Int) (m_2 : Option Addr) (m_2_n m_2_c : Nat) (R : Ending → World → Prop) (w : World) : Prop :=
  ∀ w1, Grew w w1 → ∃ (J2 : Bool → World → Prop), (CallsW Try.prog 33 [.int .i64 m_0] w1 (RetR R fun u4 w3 => ∃ (b5 : Bool), u4 = .bool b5 ∧ (((!b5) = true → J2 true w3) ∧ ((!b5) = false → CallsW Try.prog 33 [.int .i64 m_1]
    w3 (RetR R fun u8 w7 => ∃ (b9 : Bool), u8 = .bool b9 ∧ (((!b9) = true → J2 true w7) ∧ ((!b9) = false → (((decide (((m_2_n : Nat) : Int) > 64)) = true → J2 true w7) ∧ ((decide (((m_2_n : Nat) : Int) > 64)) = false →
    CallsW Try.prog 26 [.slice m_2 m_2_n m_2_c] w7 (RetR R fun u12 w11 => ∃ (b13 : Bool), u12 = .bool b13 ∧ J2 (!b13) w11)))))))))) ∧ ∀ (b15 : Bool) (w16 : World), J2 b15 w16 → ((b15 = true → R (.returned (.bool false))
    w16) ∧ (b15 = false → (((m_0 == 0) = true → (((m_1 == 0) = true → R (.returned (.bool (((m_2_n : Nat) : Int) == 0))) w16) ∧ ((m_1 == 0) = false → (((m_0 != 0) = true → R (.returned (.bool (m_1 != 0))) w16) ∧ ((m_0 !=
    0) = false → R (.returned (.bool false)) w16))))) ∧ ((m_0 == 0) = false → (((m_0 != 0) = true → R (.returned (.bool (m_1 != 0))) w16) ∧ ((m_0 != 0) = false → R (.returned (.bool false)) w16))))))
theorem sx14.ok {m_0 : Int} {m_1 : Int} {m_2 : Option Addr} {m_2_n m_2_c : Nat} {R : Ending → World → Prop} {w : World} (h : sx14 m_0 m_1 m_2 m_2_n m_2_c R w) : CallsW Try.prog 14 [.agg #[.int .i64 m_0, .int .i64 m_1, .slice m_2 m_2_n m_2_c]] w R :=
  callsW_of mix Try.func14 (by kernel_rfl) (by kernel_rfl) (Eq.mpr (by kernel_rfl : denFn Try.prog { locals := [1], cuts := [(2, { slots := [(3, .bool)], cells := [] })] } Try.f14 [.agg #[.int .i64 m_0, .int .i64 m_1, .slice m_2 m_2_n m_2_c]] R w = sx14 m_0 m_1 m_2 m_2_n m_2_c R w) h)

/- reprise/mark.Encode -/
def sx12 (m_0 : Int) (m_1 : Int) (m_2 : Option Addr) (m_2_n m_2_c : Nat) (R : Ending → World → Prop) (w : World) : Prop :=
  ∀ w1, Grew w w1 → CallsW Try.prog 14 [.agg #[.int .i64 m_0, .int .i64 m_1, .slice m_2 m_2_n m_2_c]] w1 (RetR R fun u3 w2 => ∃ (b4 : Bool), u3 = .bool b4 ∧ (((!b4) = true → R (.returned (.tuple #[.slice none 0 0, .int .i64
    1])) w2) ∧ ((!b4) = false → ∀ w6, Grew w2 w6 → ∀ n7 : Int, n7 = IntKind.u64.wrap ((m_2_n : Nat) : Int) → CallsW Try.prog 31 [.int .u64 (IntKind.u64.wrap m_0)] w6 (Ret (fun u9 w8 => ∃ (a10 : Option Addr) (l10 c10 :
    Nat), u9 = .slice a10 l10 c10 ∧ SameB w6 w8 [] ∧ CallsW Try.prog 31 [.int .u64 (IntKind.u64.wrap m_1)] w8 (Ret (fun u13 w12 => ∃ (a14 : Option Addr) (l14 c14 : Nat), u13 = .slice a14 l14 c14 ∧ SameB w8 w12 [] ∧ CallsW
    Try.prog 31 [.int .u64 n7] w12 (Ret (fun u17 w16 => ∃ (a18 : Option Addr) (l18 c18 : Nat), u17 = .slice a18 l18 c18 ∧ ∀ (b20 : Nat) (w21 : World), Alloc w16 w21 b20 (.cells #[.slice a10 l10 c10, .slice a14 l14 c14,
    .slice a18 l18 c18] 26) → CallsW Try.prog 30 [.slice (some ⟨b20, 0, none⟩) 3 3] w21 (Ret (fun u23 w22 => ∃ (a24 : Option Addr) (l24 c24 : Nat), u23 = .slice a24 l24 c24 ∧ ∃ (I26 : Option Addr → Nat → Nat → Int → World
    → Prop) (m26 : Option Addr → Nat → Nat → Int → World → Nat), I26 a24 l24 c24 0 w22 ∧ ∀ (a27 : Option Addr) (l27 c27 : Nat) (n28 : Int) (w29 : World), I26 a27 l27 c27 n28 w29 → (((decide (n28 < ((m_2_n : Nat) : Int)))
    = true → withSome m_2 (fun d30 => (0 ≤ n28 ∧ n28 < (m_2_n : Nat)) ∧ ∃ (n31 : Int), w29.cell? (Addr.add d30 (n28.toNat * 1)) = some (.int .u64 n31) ∧ CallsW Try.prog 31 [.int .u64 n31] w29 (RetR R fun u33 w32 => ∃ (a34
    : Option Addr) (l34 c34 : Nat), u33 = .slice a34 l34 c34 ∧ SemW Try.prog (Builtin.append_ #[26, 26] 26 #[.slice a27 l27 c27, .slice a34 l34 c34]) (fun u37 w36 => ∃ (a38 : Option Addr) (l38 c38 : Nat), u37 = .slice a38
    l38 c38 ∧ (I26 a38 l38 c38 (IntKind.i64.wrap (n28 + 1)) w36 ∧ m26 a38 l38 c38 (IntKind.i64.wrap (n28 + 1)) w36 < m26 a27 l27 c27 n28 w29)) w32))) ∧ ((decide (n28 < ((m_2_n : Nat) : Int))) = false → R (.returned
    (.tuple #[.slice a27 l27 c27, .int .i64 0])) w29))) (fun c25 w22 => False))) (fun c19 w16 => False))) (fun c15 w12 => False))) (fun c11 w8 => False)))))
theorem sx12.ok {m_0 : Int} {m_1 : Int} {m_2 : Option Addr} {m_2_n m_2_c : Nat} {R : Ending → World → Prop} {w : World} (h : sx12 m_0 m_1 m_2 m_2_n m_2_c R w) : CallsW Try.prog 12 [.agg #[.int .i64 m_0, .int .i64 m_1, .slice m_2 m_2_n m_2_c]] w R :=
  callsW_of mix Try.func12 (by kernel_rfl) (by kernel_rfl) (Eq.mpr (by kernel_rfl : denFn Try.prog { locals := [1], sem := [35], named := [21], draws := [(3, { order := (.cons 0 (.cons 1 (.cons 2 (.cons 4 (.cons 5 (.cons 6 (.cons 8 (.cons 9 (.cons 10 (.cons 11 (.cons 3 (.cons 7 (.cons 12 (.cons 13 (.cons 14 (.cons 15 .nil)))))))))))))))), bars := [12, 13, 14] })], loops := [(5, { slots := [(4, .slice), (28, .int .i64)], cells := [] })] } Try.f12 [.agg #[.int .i64 m_0, .int .i64 m_1, .slice m_2 m_2_n m_2_c]] R w = sx12 m_0 m_1 m_2 m_2_n m_2_c R w) h)


theorem within_ok {x : Int} {w : World} : CallsW Try.prog 33 [.int .i64 x] w (Rets fun v w' => v = .bool (withinB x) ∧ w' = w) := by
  refine sx33.ok ?_
  unfold sx33
  refine ⟨fun h => ?_, fun h => ?_⟩
  · have h' : 0 ≤ x := by simpa using h
    exact ⟨_, rfl, by rw [withinB]; simp [h'], rfl⟩
  · have h' : ¬ 0 ≤ x := by simpa using h
    exact ⟨_, rfl, by rw [withinB]; simp [h'], rfl⟩

theorem KRising_ok {a : Option Addr} {n c : Nat} {l : List Int} {w : World} (hr : Reads w (Enc.int .u64) (a, n, c) l) (hl : l.length ≤ 9223372036854775806) : CallsW Try.prog 26 [.slice a n c] w (Rets fun v w' => v = .bool (risingK l) ∧ w' = w) := by
  refine sx26.ok ?_
  unfold sx26
  have hn : n = l.length := hr.2.1
  subst hn
  refine ⟨fun i w' => ∃ k : Nat, i = k ∧ k ≤ l.length ∧ (∀ (j : Nat) (x y : Int), j + 1 < k → l[j]? = some x → l[j + 1]? = some y → x < y) ∧ w' = w, fun i _ => l.length - i.toNat, ⟨0, rfl, Nat.zero_le _, fun j x y h => by omega, rfl⟩, ?_⟩
  rintro i w' ⟨k, rfl, hk, hlt, rfl⟩
  refine ⟨fun h => ?_, fun h => ?_⟩
  · simp only [decide_eq_true_eq] at h
    have hw1 : IntKind.i64.wrap ((k : Int) + 1) = ((k + 1 : Nat) : Int) := by rw [IntKind.wrap_i64]; omega
    obtain ⟨d, y, rfl, hy, hcy⟩ := hr.at0 (k := k) (by omega)
    rw [hw1]
    have hm : l.length - (((k + 1 : Nat) : Int)).toNat < l.length - ((k : Int)).toNat := by omega
    refine ⟨by omega, y, by simpa [Enc.int, CellsAt, Addr.add_zero'] using hcy, fun h0 => ?_, fun h0 => ?_⟩
    · simp only [decide_eq_true_eq] at h0
      have hw2 : IntKind.i64.wrap ((k : Int) - 1) = ((k - 1 : Nat) : Int) := by rw [IntKind.wrap_i64]; omega
      rw [hw2]
      obtain ⟨d', x, hd', hx, hcx⟩ := hr.at0 (k := k - 1) (by omega)
      cases hd'
      refine ⟨by omega, x, by simpa [Enc.int, CellsAt, Addr.add_zero'] using hcx, fun hle => ?_, fun hle => ?_⟩
      · simp only [decide_eq_true_eq] at hle
        have : risingK l = false := by
          apply Bool.eq_false_iff.2
          intro hr'
          have := (risingK_iff l).1 hr' (k - 1) x y hx (by rw [show k - 1 + 1 = k from by omega]; exact hy)
          omega
        exact ⟨_, rfl, by rw [this], rfl⟩
      · simp only [decide_eq_false_iff_not] at hle
        refine ⟨⟨k + 1, rfl, by omega, fun j u v hj hu hv => ?_, rfl⟩, hm⟩
        by_cases hjk : j + 1 < k
        · exact hlt j u v hjk hu hv
        · have : j = k - 1 := by omega
          subst this
          rw [show k - 1 + 1 = k from by omega] at hv
          rw [hx] at hu; rw [hy] at hv
          cases hu; cases hv; omega
    · simp only [decide_eq_false_iff_not] at h0
      exact ⟨⟨k + 1, rfl, by omega, fun j u v hj hu hv => by omega, rfl⟩, hm⟩
  · simp only [decide_eq_false_iff_not] at h
    have : risingK l = true := (risingK_iff l).2 fun i x y hx hy => by
      have : i + 1 < l.length := (List.getElem?_eq_some_iff.1 hy).1
      exact hlt i x y (by omega) hx hy
    exact ⟨_, rfl, by rw [this], rfl⟩

/-- a mark as it is handed over -/
abbrev mval (m : MarkV) (a : Option Addr) (n c : Nat) : Value := .agg #[.int .i64 m.batch, .int .i64 m.attempt, .slice a n c]

theorem Sound_ok {m : MarkV} {a : Option Addr} {n c : Nat} {w : World} (hr : Reads w (Enc.int .u64) (a, n, c) m.keys) (hl : m.keys.length ≤ 9223372036854775806) : CallsW Try.prog 14 [mval m a n c] w (Rets fun v w' => v = .bool (soundM m) ∧ Grew w w') := by
  refine sx14.ok ?_
  unfold sx14
  intro w1 hg1
  have hn : n = m.keys.length := hr.2.1
  refine ⟨fun b w' => b = !(withinB m.batch && withinB m.attempt && decide (m.keys.length ≤ 64) && risingK m.keys) ∧ Grew w w', within_ok.use fun v w3 ⟨hv, hw⟩ => ?_, ?_⟩
  · subst hv; subst hw
    refine ⟨_, rfl, fun h => ⟨by have : withinB m.batch = false := by simpa using h
                                 simp [this], hg1⟩, fun h => within_ok.use fun v w7 ⟨hv, hw⟩ => ?_⟩
    subst hv; subst hw
    have h1 : withinB m.batch = true := by simpa using h
    refine ⟨_, rfl, fun h => ⟨by have : withinB m.attempt = false := by simpa using h
                                 simp [this], hg1⟩, fun h => ?_⟩
    have h2 : withinB m.attempt = true := by simpa using h
    refine ⟨fun h => ⟨by have : ¬ m.keys.length ≤ 64 := by simp only [decide_eq_true_eq] at h; omega
                         simp [this], hg1⟩, fun h => (KRising_ok (hr.grew hg1) hl).use fun v w11 ⟨hv, hw⟩ => ?_⟩
    subst hv; subst hw
    have h3 : m.keys.length ≤ 64 := by simp only [decide_eq_false_iff_not] at h; omega
    exact ⟨_, rfl, by simp [h1, h2, h3], hg1⟩
  rintro b w16 ⟨rfl, hg16⟩
  refine ⟨fun h => ?_, fun h => ?_⟩
  · have h' : (withinB m.batch && withinB m.attempt && decide (m.keys.length ≤ 64) && risingK m.keys) = false := by rw [Bool.not_eq_true'] at h; exact h
    exact ⟨_, rfl, by rw [soundM, h']; simp, hg16⟩
  have h' : (withinB m.batch && withinB m.attempt && decide (m.keys.length ≤ 64) && risingK m.keys) = true := by rw [Bool.not_eq_false'] at h; exact h
  have hs : soundM m = (if m.batch = 0 ∧ m.attempt = 0 then decide (m.keys.length = 0) else decide (m.batch ≠ 0) && decide (m.attempt ≠ 0)) := by rw [soundM, h']; simp
  refine ⟨fun h0 => ⟨fun h1 => ?_, fun h1 => ⟨fun h2 => ?_, fun h2 => ?_⟩⟩, fun h0 => ⟨fun h2 => ?_, fun h2 => ?_⟩⟩
  all_goals simp only [beq_iff_eq, beq_eq_false_iff_ne, bne_iff_ne, ne_eq] at *
  · exact ⟨_, rfl, by rw [hs, if_pos ⟨h0, h1⟩, hn]; congr 1; by_cases hz : m.keys.length = 0 <;> simp [hz], hg16⟩
  · exact absurd h0 h2
  · exact ⟨_, rfl, by rw [hs, if_neg (fun hh => h1 hh.2)]; simp [h0], hg16⟩
  · exact ⟨_, rfl, by rw [hs, if_neg (fun hh => h0 hh.1)]; congr 1; by_cases hz : m.attempt = 0 <;> simp [h0, hz], hg16⟩
  · exact absurd h2 (by simp [h0])

theorem Join3_ok {w w1 : World} {b n1 n2 n3 c1 c2 c3 : Nat} {a1 a2 a3 : Option Addr} {l1 l2 l3 : List Int}
    (ha : Alloc w w1 b (.cells #[.slice a1 n1 c1, .slice a2 n2 c2, .slice a3 n3 c3] 26))
    (h1 : Reads w (Enc.int .u8) (a1, n1, c1) l1) (h2 : Reads w (Enc.int .u8) (a2, n2, c2) l2) (h3 : Reads w (Enc.int .u8) (a3, n3, c3) l3)
    (hl : (l1 ++ (l2 ++ l3)).length ≤ 1099511627776) :
    CallsW Try.prog 30 [.slice (some ⟨b, 0, none⟩) 3 3] w1 (Rets (Fresh w1 5 (Enc.int .u8) (l1 ++ (l2 ++ l3)))) := by
  have hs := (Own.alloc (E := Enc.slice) (l := [(a1, n1, c1), (a2, n2, c2), (a3, n3, c3)]) ha (Nat.le_refl _) rfl (by simp [maxLen])).sl
  have hf : [l1, l2, l3].flatten = l1 ++ (l2 ++ l3) := by simp
  have := Join_ok (ls := [l1, l2, l3]) (n := 3) (c := 3) hs rfl rfl ?_ (by rw [hf]; exact hl) (by decide)
  · rw [hf] at this; exact this
  · intro k p l hp hq
    rcases k with _ | _ | _ | k <;> simp at hp hq
    all_goals (subst hp; subst hq)
    · exact h1.grew ha.grew
    · exact h2.grew ha.grew
    · exact h3.grew ha.grew

theorem flat_snoc (l : List Int) (k : Nat) (x : Int) (h : l[k]? = some x) : (l.take (k + 1)).flatMap putB = (l.take k).flatMap putB ++ putB x := by rw [take_snoc h]; simp

theorem MEncode_ok {m : MarkV} {a : Option Addr} {n c : Nat} {w : World} (hr : Reads w (Enc.int .u64) (a, n, c) m.keys) (hf : Keys64 m.keys) (hl : m.keys.length ≤ 9223372036854775806) : CallsW Try.prog 12 [mval m a n c] w (Rets (BytesErr w (encodeM m))) := by
  refine sx12.ok ?_
  unfold sx12
  intro w1 hg1
  have hn : n = m.keys.length := hr.2.1
  subst hn
  refine (Sound_ok (hr.grew hg1) hl).use fun v w2 ⟨hv, hg2⟩ => ?_
  subst hv
  refine ⟨_, rfl, fun h => ?_, fun h w6 hg6 => ?_⟩
  · have h' : soundM m = false := by simpa using h
    exact ⟨_, rfl, by rw [encodeM, if_neg (by rw [h']; simp)]; exact .no (hg1.trans hg2) _⟩
  have hs : soundM m = true := by simpa using h
  have ho := soundM_ok hs hf
  have hb0 := ho.1.1; have ha0 := ho.2.1.1; have hk64 := ho.2.2.1
  have eb : IntKind.u64.wrap m.batch = m.batch := by rw [IntKind.wrap_u64]; simp only [u64m] at hb0; omega
  have ea : IntKind.u64.wrap m.attempt = m.attempt := by rw [IntKind.wrap_u64]; simp only [u64m] at ha0; omega
  have el : IntKind.u64.wrap (m.keys.length : Int) = m.keys.length := by rw [IntKind.wrap_u64]; omega
  rintro n7 rfl
  rw [eb, ea, el]
  have hg6' := (hg1.trans hg2).trans hg6
  refine (Put_ok hb0.1 hb0.2).use' fun v w8 ⟨a10, l10, c10, hv, ho8, hg8⟩ => ?_
  subst hv
  refine ⟨_, _, _, rfl, trivial, (Put_ok ha0.1 ha0.2).use' fun v w12 ⟨a14, l14, c14, hv, ho12, hg12⟩ => ?_⟩
  subst hv
  refine ⟨_, _, _, rfl, trivial, (Put_ok (by omega) (by simp only [u64m]; omega)).use' fun v w16 ⟨a18, l18, c18, hv, ho16, hg16⟩ => ?_⟩
  subst hv
  refine ⟨_, _, _, rfl, fun b20 w21 hal => ?_⟩
  have h1 := putB_len10 hb0.2; have h2 := putB_len10 ha0.2
  have h3 := putB_len10 (x := (m.keys.length : Int)) (by simp only [u64m]; omega)
  refine (Join3_ok hal ((ho8.grew hg12).grew hg16).reads (ho12.grew hg16).reads ho16.reads (by simp only [List.length_append]; omega)).use' fun v w22 ⟨a24, l24, c24, hv, ho22, hg22⟩ => ?_
  subst hv
  have hg21 := hg6'.trans (hg8.trans (hg12.trans (hg16.trans hal.grew)))
  obtain ⟨H, hH⟩ : ∃ H, H = putB m.batch ++ (putB m.attempt ++ putB (m.keys.length : Int)) := ⟨_, rfl⟩
  have hHl : H.length ≤ 30 := by rw [hH]; simp only [List.length_append]; omega
  rw [← hH] at ho22
  refine ⟨_, _, _, rfl, fun a27 l27 c27 i w' => ∃ k : Nat, i = k ∧ k ≤ m.keys.length ∧ Own w' w.heap.size 5 (Enc.int .u8) a27 l27 c27 (H ++ (m.keys.take k).flatMap putB) ∧ Grew w w', fun _ _ _ i _ => m.keys.length - i.toNat, ⟨0, rfl, Nat.zero_le _, by simpa using ho22.base hg21.size, hg21.trans hg22⟩, ?_⟩
  rintro a27 l27 c27 i w29 ⟨k, rfl, hk, ho29, hg29⟩
  refine ⟨fun hlt => ?_, fun hge => ?_⟩
  · simp only [decide_eq_true_eq] at hlt
    obtain ⟨d, x, rfl, hx, hcx⟩ := (hr.grew hg29).at0 (k := k) (by omega)
    have hw1 : IntKind.i64.wrap ((k : Int) + 1) = ((k + 1 : Nat) : Int) := by rw [IntKind.wrap_i64]; omega
    rw [hw1]
    have hxf := hf x (List.mem_of_getElem? hx)
    refine ⟨by omega, x, by simpa [Enc.int, CellsAt, Addr.add_zero'] using hcx, (Put_ok hxf.1 hxf.2).use fun v w32 ⟨a34, l34, c34, hv, ho32, hg32⟩ => ?_⟩
    subst hv
    have h4 := flat_putB_len (m.keys.take k) fun z hz => hf z (List.mem_of_mem_take hz)
    have h5 := putB_len10 hxf.2
    rw [List.length_take] at h4
    refine ⟨_, _, _, rfl, append_sl e8 (ho29.grew hg32) ho32.reads.1 ho32.reads.2.1 ho32.reads.2.2.1 (Nat.le_trans hg29.size hg32.size) (by simp only [List.length_append, maxLen]; omega) (by simp only [List.length_append]; omega) ?_⟩
    rintro v w36 ⟨a38, l38, c38, rfl, ho36, hu36, -⟩
    refine ⟨_, _, _, rfl, ⟨k + 1, rfl, by omega, ?_, (hg29.trans hg32).then_own hu36 fun b hb => (ho29.blk hb).1⟩, by show m.keys.length - (((k + 1 : Nat) : Int)).toNat < m.keys.length - ((k : Int)).toNat; omega⟩
    rw [flat_snoc _ _ _ hx, ← List.append_assoc]; exact ho36
  · simp only [decide_eq_false_iff_not] at hge
    have hkk : k = m.keys.length := by omega
    subst hkk
    rw [List.take_length] at ho29
    refine ⟨_, rfl, ?_⟩
    rw [encodeM, if_pos hs]
    refine ⟨_, _, _, rfl, ?_, hg29⟩
    show Own _ _ _ _ _ _ _ (bytesM m)
    have : bytesM m = H ++ m.keys.flatMap putB := by rw [hH, bytesM]; simp
    rw [this]; exact ho29
end Go.Proofs.Yteakjjbajjkloaa
