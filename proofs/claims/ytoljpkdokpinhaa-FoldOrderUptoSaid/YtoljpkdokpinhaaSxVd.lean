/- Values of aggregates may be brought together in any order. Conditions: none. -/
import Derived.Test.YtoljpkdokpinhaaSxVc
namespace Go.Sx
set_option linter.unusedSimpArgs false
set_option linter.unusedVariables false

theorem rank_inj {x y : Nat} (hx : x < 18446744073709551616) (hy : y < 18446744073709551616) (cx : canonF x = x) (cy : canonF y = y) (h : rankN x = rankN y) : x = y := by
  cases nx : nanB x
  · have lx := rank_lt_nan hx nx
    cases ny : nanB y
    · have e : ∀ {z : Nat}, nanB z = false → rankN z = if 9223372036854775808 ≤ z then -1 - ((z : Int) - 9223372036854775808) else z := fun h => by unfold rankN; rw [if_neg (by rw [h]; decide)]
      rw [e nx, e ny] at h
      split at h <;> split at h <;> omega
    · rw [rank_nan ny] at h; omega
  · cases ny : nanB y
    · have ly := rank_lt_nan hy ny
      rw [rank_nan nx] at h; omega
    · rw [canonF_nan nx] at cx; rw [canonF_nan ny] at cy
      rw [← cx, ← cy]
theorem leastF_min {x y : Nat} (cx : canonF x = x) (cy : canonF y = y) : leastF x y = if rankN y < rankN x then y else x := by
  unfold leastF ordN
  by_cases h : rankN y < rankN x
  · have h2 : ¬ rankN x < rankN y := by omega
    simp [h, h2, cy]
  · by_cases h2 : rankN x < rankN y
    · simp [h, h2, cx]
    · simp [h, h2, cx]
theorem mostF_max {x y : Nat} (cx : canonF x = x) (cy : canonF y = y) : mostF x y = if rankN x < rankN y then y else x := by
  unfold mostF ordN
  by_cases h : rankN x < rankN y
  · simp [h, cy]
  · by_cases h2 : rankN y < rankN x
    · simp [h, h2, cx]
    · simp [h, h2, cx]

/-- a value in its one form, as wide as it may be -/
structure Form (kind : Int) (v : ValV) : Prop where
  fit : fitV kind v = v
  wide : v.Fits
theorem Form.zero {kind : Int} : Form kind val0 := ⟨fit_zero, by decide, by decide⟩
theorem Form.of {kind : Int} {x : Nat} (hx : x < 18446744073709551616) : Form kind (ofV kind x) := ⟨fit_of, ofV_fits hx⟩
theorem Form.fitted {kind : Int} {v : ValV} (h : v.Fits) : Form kind (fitV kind v) := ⟨fit_fit, fitV_fits h⟩
theorem Form.bits {kind : Int} {v : ValV} (h : Form kind v) (hh : v.has = true) (hk : kind = 3 ∨ kind = 4) : canonF v.bits.toNat = v.bits.toNat ∧ v.bits.toNat < 18446744073709551616 ∧ v = ⟨true, (v.bits.toNat : Int)⟩ := by
  have hf := h.fit
  obtain ⟨w1, w2⟩ := h.wide
  have hb := bits_lt h.wide
  have hkn : knownB kind = true := by unfold knownB; rw [decide_eq_true_eq]; omega
  unfold fitV at hf
  rw [if_neg (by rw [hkn, hh]; simp), if_pos hk] at hf
  have e : ofV kind v.bits.toNat = ⟨true, (canonF v.bits.toNat : Int)⟩ := by unfold ofV; rw [if_neg (by omega), if_neg (by omega), if_pos hk]
  rw [e] at hf
  have h1 : ((canonF v.bits.toNat : Nat) : Int) = v.bits := congrArg ValV.bits hf
  refine ⟨by omega, hb, ?_⟩
  cases v
  simp only at hh w1 ⊢
  rw [hh]; congr 1; omega
theorem Form.empty {kind : Int} {v : ValV} (h : Form kind v) (hh : v.has = false) : v = val0 := by
  have hf := h.fit
  unfold fitV at hf
  rw [if_pos (.inr hh)] at hf
  exact hf.symm
theorem ofV_form {kind : Int} {x : Nat} (hk : kind = 3 ∨ kind = 4) (cx : canonF x = x) : ofV kind x = ⟨true, (x : Int)⟩ := by
  unfold ofV; rw [if_neg (by omega), if_neg (by omega), if_pos hk, cx]
theorem Form.join {kind : Int} {a b : ValV} (hk : knownB kind = true) (ha : Form kind a) (hb : Form kind b) : Form kind (joinV kind a b) := by
  refine ⟨?_, joinV_fits ha.wide hb.wide⟩
  unfold knownB at hk
  simp only [decide_eq_true_eq] at hk
  unfold joinV
  split
  · exact hb.fit
  split
  · exact ha.fit
  split
  · rename_i h; subst h; exact fit_of
  split
  · rename_i h; subst h; exact fit_of
  · unfold fitV
    rw [if_neg (by simp [knownB]; omega), if_neg (by omega)]
theorem mergeV_form {kind : Int} {a b : ValV} (ha : Form kind a) (hb : Form kind b) : mergeV kind a b = joinV kind a b := by unfold mergeV; rw [ha.fit, hb.fit]
theorem join_zero {kind : Int} {a : ValV} (ha : Form kind a) : joinV kind val0 a = a ∧ joinV kind a val0 = a := by
  constructor
  · unfold joinV; rw [if_pos (show val0.has = false from rfl)]
  · unfold joinV
    by_cases h : a.has = false
    · rw [if_pos h]; exact (ha.empty h).symm
    · rw [if_neg h, if_pos (show val0.has = false from rfl)]
theorem join_has {kind : Int} {a b : ValV} (h1 : a.has = true) (h2 : b.has = true) : joinV kind a b = if kind = 3 then ofV 3 (leastF a.bits.toNat b.bits.toNat) else if kind = 4 then ofV 4 (mostF a.bits.toNat b.bits.toNat) else ⟨true, IntKind.u64.wrap (a.bits + b.bits)⟩ := by
  unfold joinV; rw [if_neg (by rw [h1]; decide), if_neg (by rw [h2]; decide)]
theorem join_comm {kind : Int} {a b : ValV} (ha : Form kind a) (hb : Form kind b) : joinV kind a b = joinV kind b a := by
  cases h1 : a.has
  · rw [ha.empty h1, (join_zero hb).1, (join_zero hb).2]
  cases h2 : b.has
  · rw [hb.empty h2, (join_zero ha).1, (join_zero ha).2]
  rw [join_has h1 h2, join_has h2 h1]
  by_cases k3 : kind = 3
  · rw [if_pos k3, if_pos k3]
    obtain ⟨c1, l1, -⟩ := ha.bits h1 (.inl k3)
    obtain ⟨c2, l2, -⟩ := hb.bits h2 (.inl k3)
    congr 1
    rw [leastF_min c1 c2, leastF_min c2 c1]
    rcases Int.lt_trichotomy (rankN a.bits.toNat) (rankN b.bits.toNat) with h | h | h
    · rw [if_neg (by omega), if_pos h]
    · rw [rank_inj l1 l2 c1 c2 h]
    · rw [if_pos h, if_neg (by omega)]
  rw [if_neg k3, if_neg k3]
  by_cases k4 : kind = 4
  · rw [if_pos k4, if_pos k4]
    obtain ⟨c1, l1, -⟩ := ha.bits h1 (.inr k4)
    obtain ⟨c2, l2, -⟩ := hb.bits h2 (.inr k4)
    congr 1
    rw [mostF_max c1 c2, mostF_max c2 c1]
    rcases Int.lt_trichotomy (rankN a.bits.toNat) (rankN b.bits.toNat) with h | h | h
    · rw [if_pos h, if_neg (by omega)]
    · rw [rank_inj l1 l2 c1 c2 h]
    · rw [if_neg (by omega), if_pos h]
  rw [if_neg k4, if_neg k4, Int.add_comm]
theorem join_bits3 {a b : ValV} (ha : Form 3 a) (hb : Form 3 b) (h1 : a.has = true) (h2 : b.has = true) : joinV 3 a b = ⟨true, ((if rankN b.bits.toNat < rankN a.bits.toNat then b.bits.toNat else a.bits.toNat : Nat) : Int)⟩ := by
  obtain ⟨c1, l1, -⟩ := ha.bits h1 (.inl rfl)
  obtain ⟨c2, l2, -⟩ := hb.bits h2 (.inl rfl)
  rw [join_has h1 h2, if_pos rfl, leastF_min c1 c2]
  split
  · exact ofV_form (.inl rfl) c2
  · exact ofV_form (.inl rfl) c1
theorem join_bits4 {a b : ValV} (ha : Form 4 a) (hb : Form 4 b) (h1 : a.has = true) (h2 : b.has = true) : joinV 4 a b = ⟨true, ((if rankN a.bits.toNat < rankN b.bits.toNat then b.bits.toNat else a.bits.toNat : Nat) : Int)⟩ := by
  obtain ⟨c1, l1, -⟩ := ha.bits h1 (.inr rfl)
  obtain ⟨c2, l2, -⟩ := hb.bits h2 (.inr rfl)
  rw [join_has h1 h2, if_neg (by decide), if_pos rfl, mostF_max c1 c2]
  split
  · exact ofV_form (.inr rfl) c2
  · exact ofV_form (.inr rfl) c1
theorem join_assoc {kind : Int} {a b c : ValV} (hk : knownB kind = true) (ha : Form kind a) (hb : Form kind b) (hc : Form kind c) : joinV kind (joinV kind a b) c = joinV kind a (joinV kind b c) := by
  cases h1 : a.has
  · rw [ha.empty h1, (join_zero hb).1, (join_zero (Form.join hk hb hc)).1]
  cases h2 : b.has
  · rw [hb.empty h2, (join_zero ha).2, (join_zero hc).1]
  cases h3 : c.has
  · rw [hc.empty h3, (join_zero hb).2, (join_zero (Form.join hk ha hb)).2]
  have fab := Form.join hk ha hb
  have fbc := Form.join hk hb hc
  by_cases k3 : kind = 3
  · subst k3
    have e1 := join_bits3 ha hb h1 h2
    have e2 := join_bits3 hb hc h2 h3
    rw [join_bits3 fab hc (by rw [e1]) h3, join_bits3 ha fbc h1 (by rw [e2]), e1, e2]
    simp only [Int.toNat_natCast]
    congr 2
    repeat' split
    all_goals omega
  by_cases k4 : kind = 4
  · subst k4
    have e1 := join_bits4 ha hb h1 h2
    have e2 := join_bits4 hb hc h2 h3
    rw [join_bits4 fab hc (by rw [e1]) h3, join_bits4 ha fbc h1 (by rw [e2]), e1, e2]
    simp only [Int.toNat_natCast]
    congr 2
    repeat' split
    all_goals omega
  have e : ∀ {x y : ValV}, x.has = true → y.has = true → joinV kind x y = ⟨true, IntKind.u64.wrap (x.bits + y.bits)⟩ := fun hx hy => by rw [join_has hx hy, if_neg k3, if_neg k4]
  rw [e h1 h2, e h2 h3, e rfl h3, e h1 rfl]
  congr 1
  simp only [IntKind.wrap_u64]
  omega
end Go.Sx
