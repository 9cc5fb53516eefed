/- What the sort's parts hand back: the pivot, the patterns. Conditions: none. -/
import Derived.Test.YtoljpkdokpinhaaProg
import Derived.Test.YtoljpkdokpinhaaSortC_U
namespace Go.Proofs.Ytoljpkdokpinhaa
open Go.Sx
set_option maxRecDepth 100000
set_option linter.unusedVariables false
set_option linter.unusedSimpArgs false
open Go.Sort

/-- the counter of exchanges -/
abbrev Cnt_U (w : World) (sw : Nat) : Prop := ∃ x : Int, Row w sw 3 [.int .i64 x]
def Med_U (B : Nat) (p : Option Addr) (n c : Nat) (d : Array Int) (sw : Nat) (w : World) (S : Nat → Prop) (v : Value) (w' : World) : Prop := ∃ m : Nat, v = .int .i64 m ∧ S m ∧ Sr_U B p n c w' d ∧ Cnt_U w' sw ∧ Upd (fun b => b = sw) w w'

theorem ord2_U_ok {B : Nat} {p : Option Addr} {n c a b sw : Nat} {d : Array Int} {w : World} (h : Sr_U B p n c w d) (hc : Cnt_U w sw) (hsw : ¬ Blk p sw) (ha : a < d.size) (hb : b < d.size) :
    CallsW Try.prog 104 [.slice p n c, .int .i64 a, .int .i64 b, .pointer (some ⟨sw, 0, none⟩)] w (Rets fun v w' => ∃ x y : Nat, v = .tuple #[.int .i64 x, .int .i64 y] ∧ (x = a ∧ y = b ∨ x = b ∧ y = a) ∧ Sr_U B p n c w' d ∧ Cnt_U w' sw ∧ Upd (fun b => b = sw) w w') := by
  refine sx104.ok ?_
  unfold sx104
  intro w1 hg1
  have h1 := h.grew hg1
  obtain ⟨x, hx⟩ := hc
  have hx1 := hx.grew hg1
  refine Ar.rd h1 (i := b) rfl hb fun q1 => Ar.rd h1 (i := a) rfl ha fun q2 => less_U_use ⟨_, rfl, fun hl => ?_, fun hl => ?_⟩
  · obtain ⟨hr, hrow, hu⟩ := hx1.set1 (o := 0) (by simp) (.int .i64 (IntKind.i64.wrap (x + 1)))
    refine ⟨x, by rw [hx1.cell]; rfl, hr, ?_⟩
    rintro w11 rfl
    exact ⟨_, rfl, b, a, rfl, .inr ⟨rfl, rfl⟩, h1.upd hu (fun b hb e => hsw (e ▸ hb)), ⟨_, hrow⟩, hg1.upd.trans hu⟩
  · exact ⟨_, rfl, a, b, rfl, .inl ⟨rfl, rfl⟩, h1, ⟨x, hx1⟩, hg1.upd⟩

theorem med_U_ok {B : Nat} {p : Option Addr} {n c a b m sw : Nat} {d : Array Int} {w : World} (h : Sr_U B p n c w d) (hc : Cnt_U w sw) (hsw : ¬ Blk p sw) (ha : a < d.size) (hb : b < d.size) (hm : m < d.size) :
    CallsW Try.prog 98 [.slice p n c, .int .i64 a, .int .i64 b, .int .i64 m, .pointer (some ⟨sw, 0, none⟩)] w (Rets (Med_U B p n c d sw w fun r => r = a ∨ r = b ∨ r = m)) := by
  refine sx98.ok ?_
  unfold sx98
  refine (ord2_U_ok h hc hsw ha hb).use fun v w1 ⟨x1, y1, hv, h1, hs1, hc1, hu1⟩ => ?_
  subst hv
  refine ⟨_, _, rfl, (ord2_U_ok hs1 hc1 hsw (by omega) hm).use fun v w6 ⟨x2, y2, hv, h2, hs2, hc2, hu2⟩ => ?_⟩
  subst hv
  refine ⟨_, _, rfl, (ord2_U_ok hs2 hc2 hsw (by omega) (by omega)).use fun v w11 ⟨x3, y3, hv, h3, hs3, hc3, hu3⟩ => ?_⟩
  subst hv
  exact ⟨_, _, rfl, _, rfl, y3, rfl, by omega, hs3, hc3, (hu1.trans hu2).trans hu3⟩

theorem madj_U_ok {B : Nat} {p : Option Addr} {n c a sw : Nat} {d : Array Int} {w : World} (h : Sr_U B p n c w d) (hc : Cnt_U w sw) (hsw : ¬ Blk p sw) (ha : 0 < a) (hb : a + 1 < d.size) (hsz : d.size < 4611686018427387904) :
    CallsW Try.prog 97 [.slice p n c, .int .i64 a, .pointer (some ⟨sw, 0, none⟩)] w (Rets (Med_U B p n c d sw w fun r => a - 1 ≤ r ∧ r ≤ a + 1)) := by
  refine sx97.ok ?_
  unfold sx97
  have e1 : IntKind.i64.wrap ((a : Int) - 1) = ((a - 1 : Nat) : Int) := by rw [IntKind.wrap_i64]; omega
  have e2 : IntKind.i64.wrap ((a : Int) + 1) = ((a + 1 : Nat) : Int) := by rw [IntKind.wrap_i64]; omega
  rw [e1, e2]
  refine (med_U_ok h hc hsw (by omega) (by omega) (by omega)).use fun v w1 ⟨m, hv, hm, hs1, hc1, hu1⟩ => ?_
  subst hv
  exact ⟨_, rfl, _, rfl, m, rfl, by omega, hs1, hc1, hu1⟩

def Piv_U (B : Nat) (p : Option Addr) (n c : Nat) (d : Array Int) (a b : Nat) (w : World) (v : Value) (w' : World) : Prop := ∃ (m : Nat) (x : Int), v = .tuple #[.int .i64 m, .int .i64 x] ∧ a ≤ m ∧ m < b ∧ Sr_U B p n c w' d ∧ Grew w w'

theorem piv_U_ok {B : Nat} {p : Option Addr} {n c a b : Nat} {d : Array Int} {w : World} (h : Sr_U B p n c w d) (hab : a < b) (hb : b ≤ d.size) (hsz : d.size < 2305843009213693952) :
    CallsW Try.prog 84 [.slice p n c, .int .i64 a, .int .i64 b] w (Rets (Piv_U B p n c d a b w)) := by
  refine sx84.ok ?_
  unfold sx84
  intro sw w2 hal
  have h2 := h.grew hal.grew
  have hcnt : Cnt_U w2 sw := ⟨0, hal.at_⟩
  have hsw : ¬ Blk p sw := fun hb => by have := (h.blk hb).2; have := hal.new; omega
  have hgr : ∀ {w'}, Upd (fun b => b = sw) w2 w' → Grew w w' := fun hu => hal.grew.then_own hu fun b hb => by rw [hb]; exact hal.new
  have e0 : IntKind.i64.wrap ((b : Int) - (a : Int)) = ((b - a : Nat) : Int) := by rw [IntKind.wrap_i64]; omega
  have e1 : IntKind.i64.wrap (Int.tdiv ((b - a : Nat) : Int) 4) = (((b - a) / 4 : Nat) : Int) := by
    rw [Int.tdiv_eq_ediv_of_nonneg (by omega), IntKind.wrap_i64]; omega
  have e2 : ∀ k : Nat, k ≤ 3 → IntKind.i64.wrap ((a : Int) + IntKind.i64.wrap ((((b - a) / 4 : Nat) : Int) * k)) = ((a + (b - a) / 4 * k : Nat) : Int) := by
    intro k hk
    rcases (by omega : k = 0 ∨ k = 1 ∨ k = 2 ∨ k = 3) with rfl | rfl | rfl | rfl <;> (rw [IntKind.wrap_i64, IntKind.wrap_i64]; omega)
  rw [e0]
  refine ⟨fun h => (by cases h), fun _ => ?_⟩
  rintro n3 rfl n4 rfl
  rw [e1]
  refine ⟨fun h => (by cases h), fun _ => ?_⟩
  rintro n5 rfl n6 rfl
  refine ⟨fun h => (by cases h), fun _ => ?_⟩
  rintro n7 rfl n8 rfl
  have f1 := e2 1 (by decide); have f2 := e2 2 (by decide); have f3 := e2 3 (by decide)
  have g1 : IntKind.i64.wrap ((a : Int) + IntKind.i64.wrap ((((b - a) / 4 : Nat) : Int) * 1)) = ((a + (b - a) / 4 * 1 : Nat) : Int) := f1
  have g2 : IntKind.i64.wrap ((a : Int) + IntKind.i64.wrap ((((b - a) / 4 : Nat) : Int) * 2)) = ((a + (b - a) / 4 * 2 : Nat) : Int) := f2
  have g3 : IntKind.i64.wrap ((a : Int) + IntKind.i64.wrap ((((b - a) / 4 : Nat) : Int) * 3)) = ((a + (b - a) / 4 * 3 : Nat) : Int) := f3
  rw [g1, g2, g3]
  have fin : ∀ (m : Nat) (w' : World), a ≤ m → m < b → Sr_U B p n c w' d → Cnt_U w' sw → Upd (fun b => b = sw) w2 w' → ∃ x : Int, w'.cell? ⟨sw, 0, none⟩ = some (.int .i64 x) ∧
      (((x == 0) = true → Rets (Piv_U B p n c d a b w) (.returned (.tuple #[.int .i64 m, .int .i64 1])) w') ∧ ((x == 0) = false → (((x == 12) = true → Rets (Piv_U B p n c d a b w) (.returned (.tuple #[.int .i64 m, .int .i64 2])) w') ∧ ((x == 12) = false → Rets (Piv_U B p n c d a b w) (.returned (.tuple #[.int .i64 m, .int .i64 0])) w')))) := by
    intro m w' hm1 hm2 hs ⟨x, hx⟩ hu
    exact ⟨x, by rw [hx.cell]; rfl, fun _ => ⟨_, rfl, m, 1, rfl, hm1, hm2, hs, hgr hu⟩, fun _ => ⟨fun _ => ⟨_, rfl, m, 2, rfl, hm1, hm2, hs, hgr hu⟩, fun _ => ⟨_, rfl, m, 0, rfl, hm1, hm2, hs, hgr hu⟩⟩⟩
  refine ⟨fun h8 => ⟨fun h50 => ?_, fun h50 => ?_⟩, fun h8 => ?_⟩
  · simp only [decide_eq_true_eq, ge_iff_le] at h50 h8
    refine (madj_U_ok h2 hcnt hsw (by omega) (by omega) (by omega)).use fun v w9 ⟨m1, hv, hm1, hs9, hc9, hu9⟩ => ?_
    subst hv
    refine ⟨_, rfl, (madj_U_ok hs9 hc9 hsw (by omega) (by omega) (by omega)).use fun v w13 ⟨m2, hv, hm2, hs13, hc13, hu13⟩ => ?_⟩
    subst hv
    refine ⟨_, rfl, (madj_U_ok hs13 hc13 hsw (by omega) (by omega) (by omega)).use fun v w17 ⟨m3, hv, hm3, hs17, hc17, hu17⟩ => ?_⟩
    subst hv
    refine ⟨_, rfl, (med_U_ok hs17 hc17 hsw (by omega) (by omega) (by omega)).use fun v w21 ⟨m4, hv, hm4, hs21, hc21, hu21⟩ => ?_⟩
    subst hv
    exact ⟨_, rfl, fin m4 w21 (by omega) (by omega) hs21 hc21 (((hu9.trans hu13).trans hu17).trans hu21)⟩
  · simp only [decide_eq_true_eq, decide_eq_false_iff_not, ge_iff_le] at h50 h8
    refine (med_U_ok h2 hcnt hsw (by omega) (by omega) (by omega)).use fun v w21 ⟨m4, hv, hm4, hs21, hc21, hu21⟩ => ?_
    subst hv
    exact ⟨_, rfl, fin m4 w21 (by omega) (by omega) hs21 hc21 hu21⟩
  · simp only [decide_eq_false_iff_not, ge_iff_le] at h8
    exact fin _ w2 (by omega) (by omega) h2 hcnt (Upd.refl _ _)
end Go.Proofs.Ytoljpkdokpinhaa
