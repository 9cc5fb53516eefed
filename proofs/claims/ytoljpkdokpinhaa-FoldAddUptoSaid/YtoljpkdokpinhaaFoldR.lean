/- What tables are, in the reference. Conditions: none. -/
import Derived.Test.YtoljpkdokpinhaaProg
import Derived.Test.YtoljpkdokpinhaaFoldL
import Derived.Test.YtoljpkdokpinhaaRefA
namespace Go.Proofs.Ytoljpkdokpinhaa
open Go.Sx
set_option maxRecDepth 100000
set_option linter.unusedVariables false
set_option linter.unusedSimpArgs false
/- reprise/repriseref05.Sound -/
def sx12 (t : Option Addr) (t_n t_c : Nat) (R : Ending → World → Prop) (w : World) : Prop :=
  ∃ (I1 : Int → World → Prop) (m1 : Int → World → Nat), I1 0 w ∧ ∀ (n2 : Int) (w3 : World), I1 n2 w3 → (((decide (n2 < ((t_n : Nat) : Int))) = true → withSome t (fun d4 => (0 ≤ n2 ∧ n2 < (t_n : Nat)) ∧ ∃ (b5 : Bool),
    w3.cell? (Addr.add (Addr.add d4 (n2.toNat * 3)) 1) = some (.bool b5) ∧ (((!b5) = true → ∀ w6, Grew w3 w6 → R (.returned (.bool false)) w6) ∧ ((!b5) = false → (((decide (n2 > 0)) = true → withSome t (fun d7 => (0 ≤ n2
    ∧ n2 < (t_n : Nat)) ∧ ∃ (n8 : Int), w3.cell? (Addr.add d7 (n2.toNat * 3)) = some (.int .u64 n8) ∧ withSome t (fun d9 => (0 ≤ (IntKind.i64.wrap (n2 - 1)) ∧ (IntKind.i64.wrap (n2 - 1)) < (t_n : Nat)) ∧ ∃ (n10 : Int),
    w3.cell? (Addr.add d9 ((IntKind.i64.wrap (n2 - 1)).toNat * 3)) = some (.int .u64 n10) ∧ ∀ w11, Grew w3 w11 → (((decide (n8 ≤ n10)) = true → R (.returned (.bool false)) w11) ∧ ((decide (n8 ≤ n10)) = false → (I1
    (IntKind.i64.wrap (n2 + 1)) w11 ∧ m1 (IntKind.i64.wrap (n2 + 1)) w11 < m1 n2 w3)))))) ∧ ((decide (n2 > 0)) = false → ∀ w12, Grew w3 w12 → (I1 (IntKind.i64.wrap (n2 + 1)) w12 ∧ m1 (IntKind.i64.wrap (n2 + 1)) w12 < m1
    n2 w3))))))) ∧ ((decide (n2 < ((t_n : Nat) : Int))) = false → R (.returned (.bool true)) w3))
theorem sx12.ok {t : Option Addr} {t_n t_c : Nat} {R : Ending → World → Prop} {w : World} (h : sx12 t t_n t_c R w) : CallsW Try.prog 12 [.slice t t_n t_c] w R :=
  callsW_of mix Try.func12 (by kernel_rfl) (by kernel_rfl) (Eq.mpr (by kernel_rfl : denFn Try.prog { loops := [(2, { slots := [(3, .int .i64)], cells := [] })] } Try.f12 [.slice t t_n t_c] R w = sx12 t t_n t_c R w) h)

/- reprise/repriseref05.Find -/
def sx20 (t : Option Addr) (t_n t_c : Nat) (key : Int) (R : Ending → World → Prop) (w : World) : Prop :=
  ∀ w1, Grew w w1 → ∃ (I2 : Int → Bool → Int → World → Prop) (m2 : Int → Bool → Int → World → Nat), I2 0 false 0 w1 ∧ ∀ (n3 : Int) (b4 : Bool) (n5 : Int) (w6 : World), I2 n3 b4 n5 w6 → (((decide (n3 < ((t_n : Nat) : Int)))
    = true → withSome t (fun d7 => (0 ≤ n3 ∧ n3 < (t_n : Nat)) ∧ ∃ (n8 : Int), w6.cell? (Addr.add d7 (n3.toNat * 3)) = some (.int .u64 n8) ∧ (((n8 == key) = true → withSome t (fun d9 => (0 ≤ n3 ∧ n3 < (t_n : Nat)) ∧ ∃
    (b10 : Bool) (n11 : Int), CellsAt w6 (Addr.add (Addr.add d9 (n3.toNat * 3)) 1) 0 [.bool b10, .int .u64 n11] ∧ R (.returned (.agg #[.bool b10, .int .u64 n11])) w6)) ∧ ((n8 == key) = false → (I2 (IntKind.i64.wrap (n3 +
    1)) b4 n5 w6 ∧ m2 (IntKind.i64.wrap (n3 + 1)) b4 n5 w6 < m2 n3 b4 n5 w6))))) ∧ ((decide (n3 < ((t_n : Nat) : Int))) = false → R (.returned (.agg #[.bool false, .int .u64 0])) w6))
theorem sx20.ok {t : Option Addr} {t_n t_c : Nat} {key : Int} {R : Ending → World → Prop} {w : World} (h : sx20 t t_n t_c key R w) : CallsW Try.prog 20 [.slice t t_n t_c, .int .u64 key] w R :=
  callsW_of mix Try.func20 (by kernel_rfl) (by kernel_rfl) (Eq.mpr (by kernel_rfl : denFn Try.prog { locals := [4], loops := [(2, { slots := [(5, .int .i64)], cells := [(4, 35, [.bool, .int .u64])] })] } Try.f20 [.slice t t_n t_c, .int .u64 key] R w = sx20 t t_n t_c key R w) h)

/- reprise/repriseref05.Keys -/
def sx18 (t : Option Addr) (t_n t_c : Nat) (R : Ending → World → Prop) (w : World) : Prop :=
  ∀ (b1 : Nat) (w2 : World), Alloc w w2 b1 (.cells #[] 30) → ∃ (I3 : Option Addr → Nat → Nat → Int → World → Prop) (m3 : Option Addr → Nat → Nat → Int → World → Nat), I3 (some ⟨b1, 0, none⟩) 0 0 0 w2 ∧ ∀ (a4 : Option Addr)
    (l4 c4 : Nat) (n5 : Int) (w6 : World), I3 a4 l4 c4 n5 w6 → (((decide (n5 < ((t_n : Nat) : Int))) = true → withSome t (fun d7 => (0 ≤ n5 ∧ n5 < (t_n : Nat)) ∧ ∃ (n8 : Int), w6.cell? (Addr.add d7 (n5.toNat * 3)) = some
    (.int .u64 n8) ∧ ∀ (b9 : Nat) (w10 : World), Alloc w6 w10 b9 (.cells #[.int .u64 n8] 30) → SemW Try.prog (Builtin.append_ #[32, 32] 32 #[.slice a4 l4 c4, .slice (some ⟨b9, 0, none⟩) 1 1]) (fun u12 w11 => ∃ (a13 :
    Option Addr) (l13 c13 : Nat), u12 = .slice a13 l13 c13 ∧ (I3 a13 l13 c13 (IntKind.i64.wrap (n5 + 1)) w11 ∧ m3 a13 l13 c13 (IntKind.i64.wrap (n5 + 1)) w11 < m3 a4 l4 c4 n5 w6)) w10)) ∧ ((decide (n5 < ((t_n : Nat) :
    Int))) = false → R (.returned (.slice a4 l4 c4)) w6))
theorem sx18.ok {t : Option Addr} {t_n t_c : Nat} {R : Ending → World → Prop} {w : World} (h : sx18 t t_n t_c R w) : CallsW Try.prog 18 [.slice t t_n t_c] w R :=
  callsW_of mix Try.func18 (by kernel_rfl) (by kernel_rfl) (Eq.mpr (by kernel_rfl : denFn Try.prog { sem := [19], loops := [(3, { slots := [(3, .slice), (4, .int .i64)], cells := [] })] } Try.f18 [.slice t t_n t_c] R w = sx18 t t_n t_c R w) h)


theorem pair_parts {w : World} {d : Addr} {x : PairV} {k : Nat} (h : CellsAt w (d.add (k * Enc.pair.sz)) 0 (Enc.pair.f x)) : w.cell? (Addr.add (Addr.add d (((k : Nat) : Int).toNat * 3)) 1) = some (.bool x.has) ∧ CellsAt w (Addr.add (Addr.add d (((k : Nat) : Int).toNat * 3)) 1) 0 [.bool x.has, .int .u64 x.bits] := by
  have h1 := cellsAt_get h 1 _ rfl
  have h2 := cellsAt_get h 2 _ rfl
  have e1 : w.cell? (Addr.add (Addr.add d (((k : Nat) : Int).toNat * 3)) 1) = some (.bool x.has) := by simpa [Enc.pair, Addr.add_add] using h1
  refine ⟨e1, ?_, ?_, trivial⟩
  · rw [Addr.add_zero']; exact e1
  · simpa [Enc.pair, Addr.add_add] using h2
theorem RSound_ok {a : Option Addr} {n c : Nat} {l : List PairV} {w : World} (hr : Reads w Enc.pair (a, n, c) l) (hl : l.length ≤ maxLen) : CallsW Try.prog 12 [.slice a n c] w (Rets fun v w' => v = .bool (soundB l) ∧ Grew w w') := by
  refine sx12.ok ?_
  unfold sx12
  have hn : n = l.length := hr.2.1
  subst hn
  simp only [maxLen] at hl
  refine ⟨fun i w' => ∃ k : Nat, i = k ∧ k ≤ l.length ∧ (∀ x ∈ l.take k, x.has = true) ∧ ((l.take k).map (·.key)).Pairwise (· < ·) ∧ Grew w w', fun i _ => l.length - i.toNat, ⟨0, rfl, Nat.zero_le _, by simp, by simp, Grew.refl _⟩, ?_⟩
  rintro i w3 ⟨k, rfl, hk, h1, h2, hg3⟩
  refine ⟨fun hlt => ?_, fun hge => ?_⟩
  · simp only [decide_eq_true_eq] at hlt
    obtain ⟨d, x, rfl, hx, hc⟩ := (hr.grew hg3).at0 (k := k) (by omega)
    obtain ⟨c1, c2⟩ := pair_cells hc
    obtain ⟨c3, -⟩ := pair_parts hc
    have hw : IntKind.i64.wrap ((k : Int) + 1) = ((k + 1 : Nat) : Int) := by rw [IntKind.wrap_i64]; omega
    have dec : l.length - (((k + 1 : Nat) : Int)).toNat < l.length - ((k : Int)).toNat := by omega
    have has1 : x.has = true → ∀ y ∈ l.take (k + 1), y.has = true := fun hh y hy => by
      rw [take_snoc hx, List.mem_append] at hy
      rcases hy with hy | hy
      · exact h1 y hy
      · simp at hy; rw [hy]; exact hh
    refine ⟨⟨by omega, by omega⟩, _, c3, fun hb w9 hg9 => ?_, fun hb => ⟨fun h0 => ?_, fun h0 w13 hg13 => ?_⟩⟩
    · have hb : x.has = false := by simpa using hb
      refine ⟨_, rfl, ?_, hg3.trans hg9⟩
      congr 1; symm
      apply Bool.eq_false_iff.2
      intro h
      have := (soundB_take h).1 x (List.mem_of_getElem? hx)
      rw [hb] at this; cases this
    · have hb : x.has = true := by simpa using hb
      simp only [decide_eq_true_eq, gt_iff_lt] at h0
      have hwm : IntKind.i64.wrap ((k : Int) - 1) = ((k - 1 : Nat) : Int) := by rw [IntKind.wrap_i64]; omega
      obtain ⟨d', y, hd', hy, hyc⟩ := (hr.grew hg3).at0 (k := k - 1) (by omega)
      cases hd'
      obtain ⟨-, y2⟩ := pair_cells hyc
      rw [hwm, hw]
      refine ⟨⟨by omega, by omega⟩, x.key, c2, ⟨by omega, by omega⟩, y.key, y2, fun w12 hg12 => ⟨fun hle => ?_, fun hgt => ⟨⟨k + 1, rfl, by omega, has1 hb, ?_, hg3.trans hg12⟩, dec⟩⟩⟩
      · simp only [decide_eq_true_eq] at hle
        refine ⟨_, rfl, ?_, hg3.trans hg12⟩
        congr 1; symm
        apply Bool.eq_false_iff.2
        intro h
        have hp := (soundB_take h).2
        have e1 : (l.map (·.key))[k - 1]? = some y.key := by rw [List.getElem?_map, hy]; rfl
        have e2 : (l.map (·.key))[k]? = some x.key := by rw [List.getElem?_map, hx]; rfl
        obtain ⟨i1, e1⟩ := List.getElem?_eq_some_iff.1 e1
        obtain ⟨i2, e2⟩ := List.getElem?_eq_some_iff.1 e2
        have := (List.pairwise_iff_getElem.1 hp) (k - 1) k i1 i2 (by omega)
        rw [e1, e2] at this; omega
      · simp only [decide_eq_false_iff_not] at hgt
        have et : l.take k = l.take (k - 1) ++ [y] := by
          have := take_snoc hy
          rwa [show k - 1 + 1 = k from by omega] at this
        rw [take_snoc hx, et]
        rw [et] at h2
        exact rise_snoc h2 (by omega)
    · have hb : x.has = true := by simpa using hb
      simp only [decide_eq_false_iff_not, gt_iff_lt] at h0
      have hk0 : k = 0 := by omega
      subst hk0
      rw [hw]
      exact ⟨⟨1, rfl, by omega, has1 hb, by rw [take_snoc hx]; simp, hg3.trans hg13⟩, dec⟩
  · simp only [decide_eq_false_iff_not] at hge
    rw [List.take_of_length_le (by omega)] at h1 h2
    refine ⟨_, rfl, ?_, hg3⟩
    congr 1; symm
    unfold soundB; rw [decide_eq_true_eq]; exact ⟨h1, h2⟩
theorem RFind_ok {a : Option Addr} {n c : Nat} {l : List PairV} {key : Int} {w : World} (hr : Reads w Enc.pair (a, n, c) l) (hl : l.length ≤ maxLen) : CallsW Try.prog 20 [.slice a n c, .int .u64 key] w (Rets fun v w' => v = (findT l key).v ∧ Grew w w') := by
  refine sx20.ok ?_
  unfold sx20
  have hn : n = l.length := hr.2.1
  subst hn
  simp only [maxLen] at hl
  intro w1 hg1
  refine ⟨fun i _ _ w' => ∃ k : Nat, i = k ∧ k ≤ l.length ∧ (∀ x ∈ l.take k, x.key ≠ key) ∧ Grew w w', fun i _ _ _ => l.length - i.toNat, ⟨0, rfl, Nat.zero_le _, by simp, hg1⟩, ?_⟩
  rintro i _ _ w6 ⟨k, rfl, hk, h1, hg6⟩
  refine ⟨fun hlt => ?_, fun hge => ?_⟩
  · simp only [decide_eq_true_eq] at hlt
    obtain ⟨d, x, rfl, hx, hc⟩ := (hr.grew hg6).at0 (k := k) (by omega)
    obtain ⟨c1, c2⟩ := pair_cells hc
    obtain ⟨-, c3⟩ := pair_parts hc
    have hw : IntKind.i64.wrap ((k : Int) + 1) = ((k + 1 : Nat) : Int) := by rw [IntKind.wrap_i64]; omega
    rw [hw]
    refine ⟨⟨by omega, by omega⟩, _, c2, fun hb => ⟨⟨by omega, by omega⟩, _, _, c3, _, rfl, ?_, hg6⟩, fun hb => ⟨⟨k + 1, rfl, by omega, fun y hy => ?_, hg6⟩, by show l.length - (((k + 1 : Nat) : Int)).toNat < l.length - ((k : Int)).toNat; omega⟩⟩
    · simp only [beq_iff_eq] at hb
      rw [findT_at h1 hx hb]; rfl
    · simp only [beq_eq_false_iff_ne, ne_eq] at hb
      rw [take_snoc hx, List.mem_append] at hy
      rcases hy with hy | hy
      · exact h1 y hy
      · simp at hy; rw [hy]; exact hb
  · simp only [decide_eq_false_iff_not] at hge
    rw [List.take_of_length_le (by omega)] at h1
    exact ⟨_, rfl, by rw [findT_none h1]; rfl, hg6⟩
theorem RFKeys_ok {a : Option Addr} {n c : Nat} {l : List PairV} {w : World} (hr : Reads w Enc.pair (a, n, c) l) (hl : l.length ≤ maxLen) (hb : l.length * 24 ≤ 140737488355328) : CallsW Try.prog 18 [.slice a n c] w (Rets (Fresh w 30 (Enc.int .u64) (l.map (·.key)))) := by
  refine sx18.ok ?_
  unfold sx18
  have hn : n = l.length := hr.2.1
  subst hn
  simp only [maxLen] at hl
  intro b1 w2 hal2
  have ho2 := Own.alloc (E := Enc.int .u64) (l := []) hal2 (Nat.le_refl _) rfl (by decide)
  refine ⟨fun a l' c i w' => ∃ k : Nat, i = k ∧ k ≤ l.length ∧ Own w' w.heap.size 30 (Enc.int .u64) a l' c ((l.take k).map (·.key)) ∧ Grew w w', fun _ _ _ i _ => l.length - i.toNat, ⟨0, rfl, Nat.zero_le _, by simpa using ho2, hal2.grew⟩, ?_⟩
  rintro a4 l4 c4 i w6 ⟨k, rfl, hk, ho6, hg6⟩
  refine ⟨fun hlt => ?_, fun hge => ?_⟩
  · simp only [decide_eq_true_eq] at hlt
    obtain ⟨d, x, rfl, hx, hc⟩ := (hr.grew hg6).at0 (k := k) (by omega)
    obtain ⟨c1, c2⟩ := pair_cells hc
    have hw : IntKind.i64.wrap ((k : Int) + 1) = ((k + 1 : Nat) : Int) := by rw [IntKind.wrap_i64]; omega
    rw [hw]
    refine ⟨⟨by omega, by omega⟩, _, c2, fun b9 w10 hal10 => ?_⟩
    have hlk : ((l.take k).map (·.key)).length ≤ l.length := by simp; omega
    refine append_new (l2 := [x.key]) elKeyF ho6 hal10 rfl rfl hg6.size (by simp only [maxLen, List.length_singleton]; simp at hlk ⊢; omega) (by simp only [List.length_singleton]; omega) ?_
    rintro v12 w11 ⟨a13, l13, c13, rfl, ho11, hu11, hb11⟩
    refine ⟨_, _, _, rfl, ⟨k + 1, rfl, by omega, ?_, hg6.then_own hu11 fun b hb => (ho6.blk hb).1⟩, by show l.length - (((k + 1 : Nat) : Int)).toNat < l.length - ((k : Int)).toNat; omega⟩
    rw [take_snoc hx, List.map_append]; exact ho11
  · simp only [decide_eq_false_iff_not] at hge
    rw [List.take_of_length_le (by omega)] at ho6
    exact ⟨_, rfl, _, _, _, rfl, ho6, hg6⟩

theorem pair_kinds : kinds2 Try.prog 8 38 = some [.int .u64, .bool, .int .u64] := by kernel_rfl
section
variable {H : Type} {enc : TypeId × Value → H}
theorem pair_of {S : TypeId → Value → Prop} (cs : List Value) (h : AllK2 S [.int .u64, .bool, .int .u64] cs) : ∃ x : PairV, cs = Enc.pair.f x ∧ x.Fits := by
  obtain ⟨hl, h⟩ := h
  match cs, hl with
  | [c0, c1, c2], _ =>
    obtain ⟨_, e0, n0, rfl, w0⟩ := h 0 _ rfl
    obtain ⟨_, e1, n1, rfl⟩ := h 1 _ rfl
    obtain ⟨_, e2, n2, rfl, w2⟩ := h 2 _ rfl
    simp at e0 e1 e2; subst e0; subst e1; subst e2
    refine ⟨⟨n0, n1, n2⟩, rfl, ?_⟩
    simp [Lit.wf, IntKind.min, IntKind.max, IntKind.signed, IntKind.bits] at w0 w2
    refine ⟨⟨?_, ?_⟩, ⟨?_, ?_⟩⟩ <;> simp only [u64m] <;> omega
end
end Go.Proofs.Ytoljpkdokpinhaa
