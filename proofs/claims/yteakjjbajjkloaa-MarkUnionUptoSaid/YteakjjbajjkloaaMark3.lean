/- What mark's Compare, Judge, Has and Union hand back. Conditions: none. -/
import Derived.Test.YteakjjbajjkloaaProg
import Derived.Test.YteakjjbajjkloaaMark2
namespace Go.Proofs.Yteakjjbajjkloaa
open Go.Sx
set_option maxRecDepth 100000
set_option linter.unusedVariables false
set_option linter.unusedSimpArgs false
/- cmp.isNaN[int] -/
def sx47 (x : Int) (R : Ending → World → Prop) (w : World) : Prop :=
  R (.returned (.bool (x != x))) w
theorem sx47.ok {x : Int} {R : Ending → World → Prop} {w : World} (h : sx47 x R w) : CallsW Try.prog 47 [.int .i64 x] w R :=
  callsW_of mix Try.func47 (by kernel_rfl) (by kernel_rfl) (Eq.mpr (by kernel_rfl : denFn Try.prog {} Try.f47 [.int .i64 x] R w = sx47 x R w) h)

/- cmp.Compare[int] -/
def sx38 (x : Int) (y : Int) (R : Ending → World → Prop) (w : World) : Prop :=
  CallsW Try.prog 47 [.int .i64 x] w (RetR R fun u2 w1 => ∃ (b3 : Bool), u2 = .bool b3 ∧ CallsW Try.prog 47 [.int .i64 y] w1 (RetR R fun u6 w5 => ∃ (b7 : Bool), u6 = .bool b7 ∧ ((b3 = true → ((b7 = true → R (.returned (.int
    .i64 0)) w5) ∧ (b7 = false → R (.returned (.int .i64 (-1))) w5))) ∧ (b3 = false → ((b7 = true → R (.returned (.int .i64 1)) w5) ∧ (b7 = false → (((decide (x < y)) = true → R (.returned (.int .i64 (-1))) w5) ∧ ((decide
    (x < y)) = false → (((decide (x > y)) = true → R (.returned (.int .i64 1)) w5) ∧ ((decide (x > y)) = false → R (.returned (.int .i64 0)) w5))))))))))
theorem sx38.ok {x : Int} {y : Int} {R : Ending → World → Prop} {w : World} (h : sx38 x y R w) : CallsW Try.prog 38 [.int .i64 x, .int .i64 y] w R :=
  callsW_of mix Try.func38 (by kernel_rfl) (by kernel_rfl) (Eq.mpr (by kernel_rfl : denFn Try.prog {} Try.f38 [.int .i64 x, .int .i64 y] R w = sx38 x y R w) h)

/- cmp.Or[int] -/
def sx37 (vals : Option Addr) (vals_n vals_c : Nat) (R : Ending → World → Prop) (w : World) : Prop :=
  ∃ (I1 : Int → World → Prop) (m1 : Int → World → Nat), I1 0 w ∧ ∀ (n2 : Int) (w3 : World), I1 n2 w3 → (((decide (n2 < ((vals_n : Nat) : Int))) = true → withSome vals (fun d4 => (0 ≤ n2 ∧ n2 < (vals_n : Nat)) ∧ ∃ (n5 :
    Int), w3.cell? (Addr.add d4 (n2.toNat * 1)) = some (.int .i64 n5) ∧ (((n5 != 0) = true → R (.returned (.int .i64 n5)) w3) ∧ ((n5 != 0) = false → (I1 (IntKind.i64.wrap (n2 + 1)) w3 ∧ m1 (IntKind.i64.wrap (n2 + 1)) w3 <
    m1 n2 w3))))) ∧ ((decide (n2 < ((vals_n : Nat) : Int))) = false → R (.returned (.int .i64 0)) w3))
theorem sx37.ok {vals : Option Addr} {vals_n vals_c : Nat} {R : Ending → World → Prop} {w : World} (h : sx37 vals vals_n vals_c R w) : CallsW Try.prog 37 [.slice vals vals_n vals_c] w R :=
  callsW_of mix Try.func37 (by kernel_rfl) (by kernel_rfl) (Eq.mpr (by kernel_rfl : denFn Try.prog { loops := [(3, { slots := [(8, .int .i64)], cells := [] })] } Try.f37 [.slice vals vals_n vals_c] R w = sx37 vals vals_n vals_c R w) h)

/- reprise/mark.Compare -/
def sx21 (batch : Int) (attempt : Int) (otherBatch : Int) (otherAttempt : Int) (R : Ending → World → Prop) (w : World) : Prop :=
  CallsW Try.prog 38 [.int .i64 batch, .int .i64 otherBatch] w (RetR R fun u2 w1 => ∃ (n3 : Int), u2 = .int .i64 n3 ∧ CallsW Try.prog 38 [.int .i64 attempt, .int .i64 otherAttempt] w1 (RetR R fun u6 w5 => ∃ (n7 : Int), u6 =
    .int .i64 n7 ∧ ∀ (b9 : Nat) (w10 : World), Alloc w5 w10 b9 (.cells #[.int .i64 n3, .int .i64 n7] 3) → CallsW Try.prog 37 [.slice (some ⟨b9, 0, none⟩) 2 2] w10 (RetR R fun u12 w11 => ∃ (n13 : Int), u12 = .int .i64 n13
    ∧ R (.returned (.int .i64 n13)) w11)))
theorem sx21.ok {batch : Int} {attempt : Int} {otherBatch : Int} {otherAttempt : Int} {R : Ending → World → Prop} {w : World} (h : sx21 batch attempt otherBatch otherAttempt R w) : CallsW Try.prog 21 [.int .i64 batch, .int .i64 attempt, .int .i64 otherBatch, .int .i64 otherAttempt] w R :=
  callsW_of mix Try.func21 (by kernel_rfl) (by kernel_rfl) (Eq.mpr (by kernel_rfl : denFn Try.prog {} Try.f21 [.int .i64 batch, .int .i64 attempt, .int .i64 otherBatch, .int .i64 otherAttempt] R w = sx21 batch attempt otherBatch otherAttempt R w) h)

/- reprise/mark.Judge -/
def sx19 (m_0 : Int) (m_1 : Int) (m_2 : Option Addr) (m_2_n m_2_c : Nat) (batch : Int) (attempt : Int) (R : Ending → World → Prop) (w : World) : Prop :=
  ∀ w1, Grew w w1 → (((decide (batch < 1)) = true → R (.returned (.int .i64 1)) w1) ∧ ((decide (batch < 1)) = false → (((decide (attempt < 1)) = true → R (.returned (.int .i64 1)) w1) ∧ ((decide (attempt < 1)) = false →
    CallsW Try.prog 21 [.int .i64 batch, .int .i64 attempt, .int .i64 m_0, .int .i64 m_1] w1 (RetR R fun u3 w2 => ∃ (n4 : Int), u3 = .int .i64 n4 ∧ (((n4 == (-1)) = true → R (.returned (.int .i64 130)) w2) ∧ ((n4 == (-1))
    = false → (((n4 == 1) = true → R (.returned (.int .i64 131)) w2) ∧ ((n4 == 1) = false → R (.returned (.int .i64 0)) w2)))))))))
theorem sx19.ok {m_0 : Int} {m_1 : Int} {m_2 : Option Addr} {m_2_n m_2_c : Nat} {batch : Int} {attempt : Int} {R : Ending → World → Prop} {w : World} (h : sx19 m_0 m_1 m_2 m_2_n m_2_c batch attempt R w) : CallsW Try.prog 19 [.agg #[.int .i64 m_0, .int .i64 m_1, .slice m_2 m_2_n m_2_c], .int .i64 batch, .int .i64 attempt] w R :=
  callsW_of mix Try.func19 (by kernel_rfl) (by kernel_rfl) (Eq.mpr (by kernel_rfl : denFn Try.prog { locals := [3] } Try.f19 [.agg #[.int .i64 m_0, .int .i64 m_1, .slice m_2 m_2_n m_2_c], .int .i64 batch, .int .i64 attempt] R w = sx19 m_0 m_1 m_2 m_2_n m_2_c batch attempt R w) h)

/- reprise/mark.Has -/
def sx28 (m_0 : Int) (m_1 : Int) (m_2 : Option Addr) (m_2_n m_2_c : Nat) (key : Int) (R : Ending → World → Prop) (w : World) : Prop :=
  ∀ w1, Grew w w1 → CallsW Try.prog 43 [.slice m_2 m_2_n m_2_c, .int .u64 key] w1 (RetR R fun u3 w2 => ∃ (b4 : Bool), u3 = .bool b4 ∧ R (.returned (.bool b4)) w2)
theorem sx28.ok {m_0 : Int} {m_1 : Int} {m_2 : Option Addr} {m_2_n m_2_c : Nat} {key : Int} {R : Ending → World → Prop} {w : World} (h : sx28 m_0 m_1 m_2 m_2_n m_2_c key R w) : CallsW Try.prog 28 [.agg #[.int .i64 m_0, .int .i64 m_1, .slice m_2 m_2_n m_2_c], .int .u64 key] w R :=
  callsW_of mix Try.func28 (by kernel_rfl) (by kernel_rfl) (Eq.mpr (by kernel_rfl : denFn Try.prog { locals := [2] } Try.f28 [.agg #[.int .i64 m_0, .int .i64 m_1, .slice m_2 m_2_n m_2_c], .int .u64 key] R w = sx28 m_0 m_1 m_2 m_2_n m_2_c key R w) h)

/- reprise/mark.Union -/
def sx24 (a : Option Addr) (a_n a_c : Nat) (b : Option Addr) (b_n b_c : Nat) (R : Ending → World → Prop) (w : World) : Prop :=
  ∀ (b1 : Nat) (w2 : World), Alloc w w2 b1 (.cells #[.slice a a_n a_c, .slice b b_n b_c] 22) → CallsW Try.prog 39 [.slice (some ⟨b1, 0, none⟩) 2 2] w2 (RetR R fun u4 w3 => ∃ (a5 : Option Addr) (l5 c5 : Nat), u4 = .slice a5
    l5 c5 ∧ CallsW Try.prog 40 [.slice a5 l5 c5] w3 (RetR R fun u8 w7 => u8 = .tuple #[] ∧ CallsW Try.prog 41 [.slice a5 l5 c5] w7 (RetR R fun u11 w10 => ∃ (a12 : Option Addr) (l12 c12 : Nat), u11 = .slice a12 l12 c12 ∧ R
    (.returned (.slice a12 l12 c12)) w10)))
theorem sx24.ok {a : Option Addr} {a_n a_c : Nat} {b : Option Addr} {b_n b_c : Nat} {R : Ending → World → Prop} {w : World} (h : sx24 a a_n a_c b b_n b_c R w) : CallsW Try.prog 24 [.slice a a_n a_c, .slice b b_n b_c] w R :=
  callsW_of mix Try.func24 (by kernel_rfl) (by kernel_rfl) (Eq.mpr (by kernel_rfl : denFn Try.prog {} Try.f24 [.slice a a_n a_c, .slice b b_n b_c] R w = sx24 a a_n a_c b b_n b_c R w) h)


def cmpI (x y : Int) : Int := if x < y then -1 else if y < x then 1 else 0
def cmpM (b a ob oa : Int) : Int := if cmpI b ob ≠ 0 then cmpI b ob else cmpI a oa
def judgeM (m : MarkV) (b a : Int) : Int := if b < 1 ∨ a < 1 then 1 else if cmpM b a m.batch m.attempt = -1 then 130 else if cmpM b a m.batch m.attempt = 1 then 131 else 0
theorem cmpI_range (x y : Int) : cmpI x y = -1 ∨ cmpI x y = 0 ∨ cmpI x y = 1 := by unfold cmpI; split; simp; split <;> simp

theorem isNaNI_ok {x : Int} {w : World} : CallsW Try.prog 47 [.int .i64 x] w (Rets fun v w' => v = .bool false ∧ w' = w) := by
  refine sx47.ok ?_
  unfold sx47
  exact ⟨_, rfl, by simp, rfl⟩
theorem CompareI_ok {x y : Int} {w : World} : CallsW Try.prog 38 [.int .i64 x, .int .i64 y] w (Rets fun v w' => v = .int .i64 (cmpI x y) ∧ w' = w) := by
  refine sx38.ok ?_
  unfold sx38
  refine isNaNI_ok.use fun v w1 ⟨hv, hw⟩ => ?_
  subst hv; subst hw
  refine ⟨_, rfl, isNaNI_ok.use fun v w1 ⟨hv, hw⟩ => ?_⟩
  subst hv; subst hw
  refine ⟨_, rfl, ⟨fun h => (by cases h), fun _ => ⟨fun h => (by cases h), fun _ => ⟨fun h => ⟨_, rfl, ?_, rfl⟩, fun h => ⟨fun h2 => ⟨_, rfl, ?_, rfl⟩, fun h2 => ⟨_, rfl, ?_, rfl⟩⟩⟩⟩⟩⟩
  all_goals simp only [decide_eq_true_eq, decide_eq_false_iff_not] at *
  · rw [cmpI, if_pos h]
  · rw [cmpI, if_neg h, if_pos h2]
  · rw [cmpI, if_neg h, if_neg h2]
/-- the first that is not zero -/
def orL : List Int → Int
  | [] => 0
  | x :: r => if x ≠ 0 then x else orL r
theorem orL_drop {l : List Int} {k : Nat} {x : Int} (h : l[k]? = some x) : orL (l.drop k) = if x ≠ 0 then x else orL (l.drop (k + 1)) := by rw [drop_cons h, orL]
theorem OrI_ok {a : Option Addr} {n c : Nat} {l : List Int} {w : World} (hr : Reads w (Enc.int .i64) (a, n, c) l) (hl : l.length ≤ 9223372036854775806) : CallsW Try.prog 37 [.slice a n c] w (Rets fun v w' => v = .int .i64 (orL l) ∧ w' = w) := by
  refine sx37.ok ?_
  unfold sx37
  have hn : n = l.length := hr.2.1
  subst hn
  refine ⟨fun i w' => ∃ k : Nat, i = k ∧ k ≤ l.length ∧ orL (l.drop k) = orL l ∧ w' = w, fun i _ => l.length - i.toNat, ⟨0, rfl, Nat.zero_le _, rfl, rfl⟩, ?_⟩
  rintro i w' ⟨k, rfl, hk, he, rfl⟩
  refine ⟨fun hlt => ?_, fun hge => ?_⟩
  · simp only [decide_eq_true_eq] at hlt
    obtain ⟨d, x, rfl, hx, hc⟩ := hr.at0 (k := k) (by omega)
    have hw : IntKind.i64.wrap ((k : Int) + 1) = ((k + 1 : Nat) : Int) := by rw [IntKind.wrap_i64]; omega
    rw [hw]
    rw [orL_drop hx] at he
    refine ⟨by omega, x, by simpa [Enc.int, CellsAt, Addr.add_zero'] using hc, fun hne => ?_, fun h0 => ?_⟩
    · rw [if_pos (by simpa using hne)] at he
      exact ⟨_, rfl, by rw [he], rfl⟩
    · rw [if_neg (by simpa using h0)] at he
      exact ⟨⟨k + 1, rfl, by omega, he, rfl⟩, by show l.length - (((k + 1 : Nat) : Int)).toNat < l.length - ((k : Int)).toNat; omega⟩
  · simp only [decide_eq_false_iff_not] at hge
    rw [drop_all (by omega)] at he
    exact ⟨_, rfl, by rw [← he]; rfl, rfl⟩

theorem MCompare_ok {b a ob oa : Int} {w : World} : CallsW Try.prog 21 [.int .i64 b, .int .i64 a, .int .i64 ob, .int .i64 oa] w (Rets fun v w' => v = .int .i64 (cmpM b a ob oa) ∧ Grew w w') := by
  refine sx21.ok ?_
  unfold sx21
  refine CompareI_ok.use fun v w1 ⟨hv, hw⟩ => ?_
  subst hv; subst hw
  refine ⟨_, rfl, CompareI_ok.use fun v w1 ⟨hv, hw⟩ => ?_⟩
  subst hv; subst hw
  refine ⟨_, rfl, fun b9 w10 hal => ?_⟩
  have hr := (Own.alloc (E := Enc.int .i64) (l := [cmpI b ob, cmpI a oa]) hal (Nat.le_refl _) rfl (by simp [maxLen])).reads
  refine (OrI_ok hr (by simp)).use fun v w11 ⟨hv, hw⟩ => ?_
  subst hv; subst hw
  refine ⟨_, rfl, _, rfl, ?_, hal.grew⟩
  simp only [orL, cmpM]
  by_cases h1 : cmpI b ob = 0 <;> by_cases h2 : cmpI a oa = 0 <;> simp [h1, h2]

theorem Judge_ok {m : MarkV} {s : Option Addr} {n c : Nat} {b a : Int} {w : World} : CallsW Try.prog 19 [mval m s n c, .int .i64 b, .int .i64 a] w (Rets fun v w' => v = .int .i64 (judgeM m b a) ∧ Grew w w') := by
  refine sx19.ok ?_
  unfold sx19
  intro w1 hg1
  refine ⟨fun h => ?_, fun h => ⟨fun h2 => ?_, fun h2 => ?_⟩⟩
  · have h' : b < 1 := by simpa using h
    exact ⟨_, rfl, by rw [judgeM, if_pos (.inl h')], hg1⟩
  · have h' : a < 1 := by simpa using h2
    exact ⟨_, rfl, by rw [judgeM, if_pos (.inr h')], hg1⟩
  have hb : ¬ b < 1 := by simpa using h
  have ha : ¬ a < 1 := by simpa using h2
  refine MCompare_ok.use fun v w2 ⟨hv, hg2⟩ => ?_
  subst hv
  refine ⟨_, rfl, fun h3 => ?_, fun h3 => ⟨fun h4 => ?_, fun h4 => ?_⟩⟩
  all_goals simp only [beq_iff_eq, beq_eq_false_iff_ne, ne_eq] at *
  · exact ⟨_, rfl, by rw [judgeM, if_neg (fun hh => hh.elim hb ha), if_pos h3], hg1.trans hg2⟩
  · exact ⟨_, rfl, by rw [judgeM, if_neg (fun hh => hh.elim hb ha), if_neg h3, if_pos h4], hg1.trans hg2⟩
  · exact ⟨_, rfl, by rw [judgeM, if_neg (fun hh => hh.elim hb ha), if_neg h3, if_neg h4], hg1.trans hg2⟩

theorem Has_ok {m : MarkV} {s : Option Addr} {n c : Nat} {key : Int} {w : World} (hr : Reads w (Enc.int .u64) (s, n, c) m.keys) (hl : m.keys.length ≤ 9223372036854775806) : CallsW Try.prog 28 [mval m s n c, .int .u64 key] w (Rets fun v w' => v = .bool (decide (key ∈ m.keys)) ∧ Grew w w') := by
  refine sx28.ok ?_
  unfold sx28
  intro w1 hg1
  refine (Contains_U_ok (hr.grew hg1) hl).use fun v w2 ⟨hw, hv⟩ => ?_
  subst hv; subst hw
  exact ⟨_, rfl, _, rfl, rfl, hg1⟩

theorem Union_ok {a b : Option Addr} {n m c e : Nat} {l r : List Int} {w : World} (hl : Reads w (Enc.int .u64) (a, n, c) l) (hr : Reads w (Enc.int .u64) (b, m, e) r) (hs : l.length + r.length ≤ 1099511627776) :
    CallsW Try.prog 24 [.slice a n c, .slice b m e] w (Rets (Fresh w 38 (Enc.int .u64) (unionL (l ++ r)))) := by
  refine sx24.ok ?_
  unfold sx24
  intro b1 w2 hal
  have hsl := (Own.alloc (E := Enc.slice) (l := [(a, n, c), (b, m, e)]) hal (Nat.le_refl _) rfl (by simp [maxLen])).sl
  have hf : [l, r].flatten = l ++ r := by simp
  have hcat := Concat_U_ok (ls := [l, r]) (n := 2) (c := 2) hsl rfl rfl ?_ (by rw [hf, List.length_append]; exact hs) (by decide)
  · rw [hf] at hcat
    refine hcat.use fun v w3 ⟨a5, l5, c5, hv, ho3, hg3⟩ => ?_
    subst hv
    refine ⟨_, _, _, rfl, (Sort_U_ok ho3 (by rw [List.length_append]; omega)).use fun v w7 ⟨hv, ho7, hu7⟩ => ⟨hv, ?_⟩⟩
    refine (Compact_U_ok ho7 (by rw [sortL_len, List.length_append]; omega)).use fun v w10 ⟨n', hv, ho10, hu10⟩ => ?_
    subst hv
    have hg : Grew w w10 := ((hal.grew.trans hg3).then_own hu7 fun x hx => Nat.le_trans hal.grew.size (ho3.blk hx).1).then_own hu10 fun x hx => Nat.le_trans hal.grew.size (ho7.blk hx).1
    exact ⟨_, _, _, rfl, _, rfl, _, _, _, rfl, ho10.base hal.grew.size, hg⟩
  · intro k p q hp hq
    rcases k with _ | _ | k <;> simp at hp hq
    all_goals (subst hp; subst hq)
    · exact hl.grew hal.grew
    · exact hr.grew hal.grew
end Go.Proofs.Yteakjjbajjkloaa
