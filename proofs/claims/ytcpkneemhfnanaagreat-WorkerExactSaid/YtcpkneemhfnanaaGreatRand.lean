/- What the sort's parts hand back: the pivot, the patterns. Conditions: none. -/
import Derived.Test.YtcpkneemhfnanaaGreatProg
import Derived.Test.YtcpkneemhfnanaaGreatSortC_U
import Derived.Test.YtcpkneemhfnanaaGreatBase
import Derived.Test.YtcpkneemhfnanaaGreatSxN
import Derived.Test.YtcpkneemhfnanaaGreatSxP
namespace Go.Proofs.YtcpkneemhfnanaaGreat
open Go.Sx
set_option maxRecDepth 100000
set_option linter.unusedVariables false
set_option linter.unusedSimpArgs false
open Go.Sort
abbrev O6 (w : World) (sw : Nat) : Prop := ∃ x : Int, Row w sw 3 [.int .i64 x]
def Aee (B : Nat) (p : Option Addr) (n c : Nat) (d : Array Int) (sw : Nat) (w : World) (S : Nat → Prop) (v : Value) (w' : World) : Prop := ∃ m : Nat, v = .int .i64 m ∧ S m ∧ Sr_U B p n c w' d ∧ O6 w' sw ∧ Upd (fun b => b = sw) w w'
theorem Mc {B : Nat} {p : Option Addr} {n c a b sw : Nat} {d : Array Int} {w : World} (h : Sr_U B p n c w d) (hc : O6 w sw) (hsw : ¬ Blk p sw) (ha : a < d.size) (hb : b < d.size) :
  Aa Tryz.prog 208 [.slice p n c, .int .i64 a, .int .i64 b, .pointer (some ⟨sw, 0, none⟩)] w (Rets fun v w' => ∃ x y : Nat, v = .tuple #[.int .i64 x, .int .i64 y] ∧ (x = a ∧ y = b ∨ x = b ∧ y = a) ∧ Sr_U B p n c w' d ∧ O6 w' sw ∧ Upd (fun b => b = sw) w w') := by
 refine sx208.ok ?_
 unfold sx208
 intro w1 hg1
 have h1 := h.grew hg1
 obtain ⟨x, hx⟩ := hc
 have hx1 := hx.grew hg1
 refine Ar.rd h1 (i := b) rfl hb fun q1 => Ar.rd h1 (i := a) rfl ha fun q2 => Bw ⟨_, rfl, fun hl => ?_, fun hl => ?_⟩
 ·obtain ⟨hr, hrow, hu⟩ := hx1.set1 (o := 0) (by simp) (.int .i64 (IntKind.i64.wrap (x + 1)))
  refine ⟨x, by rw [hx1.cell]; rfl, hr, ?_⟩
  rintro w11 rfl
  exact ⟨_, rfl, b, a, rfl, .inr ⟨rfl, rfl⟩, h1.upd hu (fun b hb e => hsw (e ▸ hb)), ⟨_, hrow⟩, hg1.upd.trans hu⟩
 ·exact ⟨_, rfl, a, b, rfl, .inl ⟨rfl, rfl⟩, h1, ⟨x, hx1⟩, hg1.upd⟩
theorem O7 {B : Nat} {p : Option Addr} {n c a b m sw : Nat} {d : Array Int} {w : World} (h : Sr_U B p n c w d) (hc : O6 w sw) (hsw : ¬ Blk p sw) (ha : a < d.size) (hb : b < d.size) (hm : m < d.size) :
  Aa Tryz.prog 203 [.slice p n c, .int .i64 a, .int .i64 b, .int .i64 m, .pointer (some ⟨sw, 0, none⟩)] w (Rets (Aee B p n c d sw w fun r => r = a ∨ r = b ∨ r = m)) := by
 refine sx203.ok ?_
 unfold sx203
 refine (Mc h hc hsw ha hb).use fun v w1 ⟨x1, y1, hv, h1, hs1, hc1, hu1⟩ => ?_
 subst hv
 refine ⟨_, _, rfl, (Mc hs1 hc1 hsw (by omega) hm).use fun v w6 ⟨x2, y2, hv, h2, hs2, hc2, hu2⟩ => ?_⟩
 subst hv
 refine ⟨_, _, rfl, (Mc hs2 hc2 hsw (by omega) (by omega)).use fun v w11 ⟨x3, y3, hv, h3, hs3, hc3, hu3⟩ => ?_⟩
 subst hv
 exact ⟨_, _, rfl, _, rfl, y3, rfl, by omega, hs3, hc3, (hu1.trans hu2).trans hu3⟩
theorem Md {B : Nat} {p : Option Addr} {n c a sw : Nat} {d : Array Int} {w : World} (h : Sr_U B p n c w d) (hc : O6 w sw) (hsw : ¬ Blk p sw) (ha : 0 < a) (hb : a + 1 < d.size) (hsz : d.size < 4611686018427387904) :
  Aa Tryz.prog 202 [.slice p n c, .int .i64 a, .pointer (some ⟨sw, 0, none⟩)] w (Rets (Aee B p n c d sw w fun r => a - 1 ≤ r ∧ r ≤ a + 1)) := by
 refine sx202.ok ?_
 unfold sx202
 have e1 : IntKind.i64.wrap ((a : Int) - 1) = ((a - 1 : Nat) : Int) := by rw [IntKind.wrap_i64]; omega
 have e2 : IntKind.i64.wrap ((a : Int) + 1) = ((a + 1 : Nat) : Int) := by rw [IntKind.wrap_i64]; omega
 rw [e1, e2]
 refine (O7 h hc hsw (by omega) (by omega) (by omega)).use fun v w1 ⟨m, hv, hm, hs1, hc1, hu1⟩ => ?_
 subst hv
 exact ⟨_, rfl, _, rfl, m, rfl, by omega, hs1, hc1, hu1⟩
def Wp (B : Nat) (p : Option Addr) (n c : Nat) (d : Array Int) (a b : Nat) (w : World) (v : Value) (w' : World) : Prop := ∃ (m : Nat) (x : Int), v = .tuple #[.int .i64 m, .int .i64 x] ∧ a ≤ m ∧ m < b ∧ Sr_U B p n c w' d ∧ Grew w w'
theorem Aa4 {B : Nat} {p : Option Addr} {n c a b : Nat} {d : Array Int} {w : World} (h : Sr_U B p n c w d) (hab : a < b) (hb : b ≤ d.size) (hsz : d.size < 2305843009213693952) :
  Aa Tryz.prog 188 [.slice p n c, .int .i64 a, .int .i64 b] w (Rets (Wp B p n c d a b w)) := by
 refine sx188.ok ?_
 unfold sx188
 intro sw w2 hal
 have h2 := h.grew hal.grew
 have hcnt : O6 w2 sw := ⟨0, hal.at_⟩
 have hsw : ¬ Blk p sw := fun hb => by have := (h.blk hb).2; have := hal.new; omega
 have hgr : ∀ {w'}, Upd (fun b => b = sw) w2 w' → Grew w w' := fun hu => hal.grew.then_own hu fun b hb => by rw [hb]; exact hal.new
 have e0 : IntKind.i64.wrap ((b : Int) - (a : Int)) = ((b - a : Nat) : Int) := by rw [IntKind.wrap_i64]; omega
 have e1 : IntKind.i64.wrap (Int.tdiv ((b - a : Nat) : Int) 4) = (((b - a) / 4 : Nat) : Int) := by
  rw [Int.tdiv_eq_ediv_of_nonneg (by omega), IntKind.wrap_i64]; omega
 have e2 : ∀ k : Nat, k ≤ 3 → IntKind.i64.wrap ((a : Int) + IntKind.i64.wrap ((((b - a) / 4 : Nat) : Int) * k)) = ((a + (b - a) / 4 * k : Nat) : Int) := by
  intro k hk
  rcases (by omega : k = 0 ∨ k = 1 ∨ k = 2 ∨ k = 3) with rfl | rfl | rfl | rfl <;> (rw [IntKind.wrap_i64, IntKind.wrap_i64]; omega)
 rw [e0]
 refine ⟨fun h => (by cases h), fun _ => ?_⟩
 rintro n3 rfl n4 rfl
 rw [e1]
 refine ⟨fun h => (by cases h), fun _ => ?_⟩
 rintro n5 rfl n6 rfl
 refine ⟨fun h => (by cases h), fun _ => ?_⟩
 rintro n7 rfl n8 rfl
 have f1 := e2 1 (by decide); have f2 := e2 2 (by decide); have f3 := e2 3 (by decide)
 have g1 : IntKind.i64.wrap ((a : Int) + IntKind.i64.wrap ((((b - a) / 4 : Nat) : Int) * 1)) = ((a + (b - a) / 4 * 1 : Nat) : Int) := f1
 have g2 : IntKind.i64.wrap ((a : Int) + IntKind.i64.wrap ((((b - a) / 4 : Nat) : Int) * 2)) = ((a + (b - a) / 4 * 2 : Nat) : Int) := f2
 have g3 : IntKind.i64.wrap ((a : Int) + IntKind.i64.wrap ((((b - a) / 4 : Nat) : Int) * 3)) = ((a + (b - a) / 4 * 3 : Nat) : Int) := f3
 rw [g1, g2, g3]
 have fin : ∀ (m : Nat) (w' : World), a ≤ m → m < b → Sr_U B p n c w' d → O6 w' sw → Upd (fun b => b = sw) w2 w' → ∃ x : Int, w'.cell? ⟨sw, 0, none⟩ = some (.int .i64 x) ∧
   (((x == 0) = true → Rets (Wp B p n c d a b w) (.returned (.tuple #[.int .i64 m, .int .i64 1])) w') ∧ ((x == 0) = false → (((x == 12) = true → Rets (Wp B p n c d a b w) (.returned (.tuple #[.int .i64 m, .int .i64 2])) w') ∧ ((x == 12) = false → Rets (Wp B p n c d a b w) (.returned (.tuple #[.int .i64 m, .int .i64 0])) w')))) := by
  intro m w' hm1 hm2 hs ⟨x, hx⟩ hu
  exact ⟨x, by rw [hx.cell]; rfl, fun _ => ⟨_, rfl, m, 1, rfl, hm1, hm2, hs, hgr hu⟩, fun _ => ⟨fun _ => ⟨_, rfl, m, 2, rfl, hm1, hm2, hs, hgr hu⟩, fun _ => ⟨_, rfl, m, 0, rfl, hm1, hm2, hs, hgr hu⟩⟩⟩
 refine ⟨fun h8 => ⟨fun h50 => ?_, fun h50 => ?_⟩, fun h8 => ?_⟩
 ·simp only [decide_eq_true_eq, ge_iff_le] at h50 h8
  refine (Md h2 hcnt hsw (by omega) (by omega) (by omega)).use fun v w9 ⟨m1, hv, hm1, hs9, hc9, hu9⟩ => ?_
  subst hv
  refine ⟨_, rfl, (Md hs9 hc9 hsw (by omega) (by omega) (by omega)).use fun v w13 ⟨m2, hv, hm2, hs13, hc13, hu13⟩ => ?_⟩
  subst hv
  refine ⟨_, rfl, (Md hs13 hc13 hsw (by omega) (by omega) (by omega)).use fun v w17 ⟨m3, hv, hm3, hs17, hc17, hu17⟩ => ?_⟩
  subst hv
  refine ⟨_, rfl, (O7 hs17 hc17 hsw (by omega) (by omega) (by omega)).use fun v w21 ⟨m4, hv, hm4, hs21, hc21, hu21⟩ => ?_⟩
  subst hv
  exact ⟨_, rfl, fin m4 w21 (by omega) (by omega) hs21 hc21 (((hu9.trans hu13).trans hu17).trans hu21)⟩
 ·simp only [decide_eq_true_eq, decide_eq_false_iff_not, ge_iff_le] at h50 h8
  refine (O7 h2 hcnt hsw (by omega) (by omega) (by omega)).use fun v w21 ⟨m4, hv, hm4, hs21, hc21, hu21⟩ => ?_
  subst hv
  exact ⟨_, rfl, fin m4 w21 (by omega) (by omega) hs21 hc21 hu21⟩
 ·simp only [decide_eq_false_iff_not, ge_iff_le] at h8
  exact fin _ w2 (by omega) (by omega) h2 hcnt (Upd.refl _ _)
end Go.Proofs.YtcpkneemhfnanaaGreat
namespace Go.Proofs.YtcpkneemhfnanaaGreat
open Go.Sx
set_option maxRecDepth 100000
set_option linter.unusedVariables false
set_option linter.unusedSimpArgs false
def sx165 (x : Int) (R : Ending → World → Prop) (w : World) : Prop :=
  ifB (decide (x ≥ 4294967296)) (0 ≤ (32 : Int) ∧ ∀ n1 : Int, n1 = Int.fdiv x (2 ^ (min (32 : Int).toNat (IntKind.bits .u64))) → ifB (decide (n1 ≥ 65536)) (0 ≤ (16 : Int) ∧ ∀ n2 : Int, n2 = Int.fdiv n1 (2 ^ (min (16 : Int).toNat (IntKind.bits .u64))) → ∀ n3 : Int, n3 = IntKind.i64.wrap ((32 : Int) + 16) → ifB (decide (n2 ≥ 256)) (0 ≤ (8 : Int) ∧ ∀ n4 : Int, n4 = Int.fdiv n2 (2 ^ (min (8 : Int).toNat (IntKind.bits .u64))) → ∀ n5 : Int, n5 = IntKind.i64.wrap (n3 + 8) → ∃ (b6 : UInt8), (0 ≤ (IntKind.u8.wrap n4) ∧ ((ByteArray.mk (#[0, 1, 2, 2, 3, 3, 3, 3, 4, 4, 4, 4, 4, 4, 4, 4, 5, 5, 5, 5, 5, 5, 5, 5, 5, 5, 5, 5, 5, 5, 5, 5, 6, 6, 6, 6, 6, 6, 6, 6, 6, 6, 6, 6, 6, 6, 6, 6, 6, 6, 6, 6, 6, 6, 6, 6, 6, 6, 6, 6, 6, 6, 6, 6, 7, 7, 7, 7, 7, 7, 7, 7, 7, 7, 7, 7, 7, 7, 7, 7, 7, 7, 7, 7, 7, 7, 7, 7, 7, 7, 7, 7, 7, 7, 7, 7, 7, 7, 7, 7, 7, 7, 7, 7, 7, 7, 7, 7, 7, 7, 7, 7, 7, 7, 7, 7, 7, 7, 7, 7, 7, 7, 7, 7, 7, 7, 7, 7, 8, 8, 8, 8, 8, 8, 8, 8, 8, 8, 8, 8, 8, 8, 8, 8, 8, 8, 8, 8, 8, 8, 8, 8, 8, 8, 8, 8, 8, 8, 8, 8, 8, 8, 8, 8, 8, 8, 8, 8, 8, 8, 8, 8, 8, 8, 8, 8, 8, 8, 8, 8, 8, 8, 8, 8, 8, 8, 8, 8, 8, 8, 8, 8, 8, 8, 8, 8, 8, 8, 8, 8, 8, 8, 8, 8, 8, 8, 8, 8, 8, 8, 8, 8, 8, 8, 8, 8, 8, 8, 8, 8, 8, 8, 8, 8, 8, 8, 8, 8, 8, 8, 8, 8, 8, 8, 8, 8, 8, 8, 8, 8, 8, 8, 8, 8, 8, 8, 8, 8, 8, 8, 8, 8, 8, 8, 8, 8]) : ByteArray)).data[(IntKind.u8.wrap n4).toNat]? = some b6) ∧ ∀ n7 : Int, n7 = IntKind.i64.wrap (b6.toNat : Int) → ∀ n8 : Int, n8 = IntKind.i64.wrap (n5 + n7) → R (.returned (.int .i64 n8)) w) (∃ (b9 : UInt8), (0 ≤ (IntKind.u8.wrap n2) ∧ ((ByteArray.mk (#[0, 1, 2, 2, 3, 3, 3, 3, 4, 4, 4, 4, 4, 4, 4, 4, 5, 5, 5, 5, 5, 5, 5, 5, 5, 5, 5, 5, 5, 5, 5, 5, 6, 6, 6, 6, 6, 6, 6, 6, 6, 6, 6, 6, 6, 6, 6, 6, 6, 6, 6, 6, 6, 6, 6, 6, 6, 6, 6, 6, 6, 6, 6, 6, 7, 7, 7, 7, 7, 7, 7, 7, 7, 7, 7, 7, 7, 7, 7, 7, 7, 7, 7, 7, 7, 7, 7, 7, 7, 7, 7, 7, 7, 7, 7, 7, 7, 7, 7, 7, 7, 7, 7, 7, 7, 7, 7, 7, 7, 7, 7, 7, 7, 7, 7, 7, 7, 7, 7, 7, 7, 7, 7, 7, 7, 7, 7, 7, 8, 8, 8, 8, 8, 8, 8, 8, 8, 8, 8, 8, 8, 8, 8, 8, 8, 8, 8, 8, 8, 8, 8, 8, 8, 8, 8, 8, 8, 8, 8, 8, 8, 8, 8, 8, 8, 8, 8, 8, 8, 8, 8, 8, 8, 8, 8, 8, 8, 8, 8, 8, 8, 8, 8, 8, 8, 8, 8, 8, 8, 8, 8, 8, 8, 8, 8, 8, 8, 8, 8, 8, 8, 8, 8, 8, 8, 8, 8, 8, 8, 8, 8, 8, 8, 8, 8, 8, 8, 8, 8, 8, 8, 8, 8, 8, 8, 8, 8, 8, 8, 8, 8, 8, 8, 8, 8, 8, 8, 8, 8, 8, 8, 8, 8, 8, 8, 8, 8, 8, 8, 8, 8, 8, 8, 8, 8, 8]) : ByteArray)).data[(IntKind.u8.wrap n2).toNat]? = some b9) ∧ ∀ n10 : Int, n10 = IntKind.i64.wrap (b9.toNat : Int) → ∀ n11 : Int, n11 = IntKind.i64.wrap (n3 + n10) → R (.returned (.int .i64 n11)) w)) (ifB (decide (n1 ≥ 256)) (0 ≤ (8 : Int) ∧ ∀ n12 : Int, n12 = Int.fdiv n1 (2 ^ (min (8 : Int).toNat (IntKind.bits .u64))) → ∀ n13 : Int, n13 = IntKind.i64.wrap ((32 : Int) + 8) → ∃ (b14 : UInt8), (0 ≤ (IntKind.u8.wrap n12) ∧ ((ByteArray.mk (#[0, 1, 2, 2, 3, 3, 3, 3, 4, 4, 4, 4, 4, 4, 4, 4, 5, 5, 5, 5, 5, 5, 5, 5, 5, 5, 5, 5, 5, 5, 5, 5, 6, 6, 6, 6, 6, 6, 6, 6, 6, 6, 6, 6, 6, 6, 6, 6, 6, 6, 6, 6, 6, 6, 6, 6, 6, 6, 6, 6, 6, 6, 6, 6, 7, 7, 7, 7, 7, 7, 7, 7, 7, 7, 7, 7, 7, 7,
 7, 7, 7, 7, 7, 7, 7, 7, 7, 7, 7, 7, 7, 7, 7, 7, 7, 7, 7, 7, 7, 7, 7, 7, 7, 7, 7, 7, 7, 7, 7, 7, 7, 7, 7, 7, 7, 7, 7, 7, 7, 7, 7, 7, 7, 7, 7, 7, 7, 7, 8, 8, 8, 8, 8, 8, 8, 8, 8, 8, 8, 8, 8, 8, 8, 8, 8, 8, 8, 8, 8, 8, 8, 8, 8, 8, 8, 8, 8, 8, 8, 8, 8, 8, 8, 8, 8, 8, 8, 8, 8, 8, 8, 8, 8, 8, 8, 8, 8, 8, 8, 8, 8, 8, 8, 8, 8, 8, 8, 8, 8, 8, 8, 8, 8, 8, 8, 8, 8, 8, 8, 8, 8, 8, 8, 8, 8, 8, 8, 8, 8, 8, 8, 8, 8, 8, 8, 8, 8, 8, 8, 8, 8, 8, 8, 8, 8, 8, 8, 8, 8, 8, 8, 8, 8, 8, 8, 8, 8, 8, 8, 8, 8, 8, 8, 8, 8, 8, 8, 8, 8, 8, 8, 8, 8, 8, 8, 8]) : ByteArray)).data[(IntKind.u8.wrap n12).toNat]? = some b14) ∧ ∀ n15 : Int, n15 = IntKind.i64.wrap (b14.toNat : Int) → ∀ n16 : Int, n16 = IntKind.i64.wrap (n13 + n15) → R (.returned (.int .i64 n16)) w) (∃ (b17 : UInt8), (0 ≤ (IntKind.u8.wrap n1) ∧ ((ByteArray.mk (#[0, 1, 2, 2, 3, 3, 3, 3, 4, 4, 4, 4, 4, 4, 4, 4, 5, 5, 5, 5, 5, 5, 5, 5, 5, 5, 5, 5, 5, 5, 5, 5, 6, 6, 6, 6, 6, 6, 6, 6, 6, 6, 6, 6, 6, 6, 6, 6, 6, 6, 6, 6, 6, 6, 6, 6, 6, 6, 6, 6, 6, 6, 6, 6, 7, 7, 7, 7, 7, 7, 7, 7, 7, 7, 7, 7, 7, 7, 7, 7, 7, 7, 7, 7, 7, 7, 7, 7, 7, 7, 7, 7, 7, 7, 7, 7, 7, 7, 7, 7, 7, 7, 7, 7, 7, 7, 7, 7, 7, 7, 7, 7, 7, 7, 7, 7, 7, 7, 7, 7, 7, 7, 7, 7, 7, 7, 7, 7, 8, 8, 8, 8, 8, 8, 8, 8, 8, 8, 8, 8, 8, 8, 8, 8, 8, 8, 8, 8, 8, 8, 8, 8, 8, 8, 8, 8, 8, 8, 8, 8, 8, 8, 8, 8, 8, 8, 8, 8, 8, 8, 8, 8, 8, 8, 8, 8, 8, 8, 8, 8, 8, 8, 8, 8, 8, 8, 8, 8, 8, 8, 8, 8, 8, 8, 8, 8, 8, 8, 8, 8, 8, 8, 8, 8, 8, 8, 8, 8, 8, 8, 8, 8, 8, 8, 8, 8, 8, 8, 8, 8, 8, 8, 8, 8, 8, 8, 8, 8, 8, 8, 8, 8, 8, 8, 8, 8, 8, 8, 8, 8, 8, 8, 8, 8, 8, 8, 8, 8, 8, 8, 8, 8, 8, 8, 8, 8]) : ByteArray)).data[(IntKind.u8.wrap n1).toNat]? = some b17) ∧ ∀ n18 : Int, n18 = IntKind.i64.wrap (b17.toNat : Int) → ∀ n19 : Int, n19 = IntKind.i64.wrap ((32 : Int) + n18) → R (.returned (.int .i64 n19)) w))) (ifB (decide (x ≥ 65536)) (0 ≤ (16 : Int) ∧ ∀ n20 : Int, n20 = Int.fdiv x (2 ^ (min (16 : Int).toNat (IntKind.bits .u64))) → ∀ n21 : Int, n21 = IntKind.i64.wrap ((0 : Int) + 16) → ifB (decide (n20 ≥ 256)) (0 ≤ (8 : Int) ∧ ∀ n22 : Int, n22 = Int.fdiv n20 (2 ^ (min (8 : Int).toNat (IntKind.bits .u64))) → ∀ n23 : Int, n23 = IntKind.i64.wrap (n21 + 8) → ∃ (b24 : UInt8), (0 ≤ (IntKind.u8.wrap n22) ∧ ((ByteArray.mk (#[0, 1, 2, 2, 3, 3, 3, 3, 4, 4, 4, 4, 4, 4, 4, 4, 5, 5, 5, 5, 5, 5, 5, 5, 5, 5, 5, 5, 5, 5, 5, 5, 6, 6, 6, 6, 6, 6, 6, 6, 6, 6, 6, 6, 6, 6, 6, 6, 6, 6, 6, 6, 6, 6, 6, 6, 6, 6, 6, 6, 6, 6, 6, 6, 7, 7, 7, 7, 7, 7, 7, 7, 7, 7, 7, 7, 7, 7, 7, 7, 7, 7, 7, 7, 7, 7, 7, 7, 7, 7, 7, 7, 7, 7, 7, 7, 7, 7, 7, 7, 7, 7, 7, 7, 7, 7, 7, 7, 7, 7, 7, 7, 7, 7, 7, 7, 7, 7, 7, 7, 7, 7, 7, 7, 7, 7, 7, 7, 8, 8, 8, 8, 8, 8, 8, 8, 8, 8, 8, 8, 8, 8, 8, 8, 8, 8, 8, 8, 8, 8, 8, 8, 8, 8, 8, 8, 8, 8, 8, 8, 8, 8, 8, 8, 8, 8, 8, 8, 8, 8, 8, 8, 8, 8, 8, 8, 8, 8, 8, 8, 8, 8, 8, 8, 8, 8, 8, 8, 8, 8, 8, 8, 8, 8, 8, 8, 8, 8, 8, 8, 8, 8, 8, 8, 8, 8, 8, 8, 8, 8, 8, 8, 8, 8, 8, 8, 8, 8, 8, 8, 8, 8, 8, 8, 8, 8, 8, 8, 8, 8, 8, 8, 8, 8, 8, 8, 8, 8, 8, 8, 8, 8, 8, 8, 8, 8, 8, 8, 8, 8, 8, 8, 8, 8, 8, 8]) : ByteArray)).data[(IntKind.u8.wrap
 n22).toNat]? = some b24) ∧ ∀ n25 : Int, n25 = IntKind.i64.wrap (b24.toNat : Int) → ∀ n26 : Int, n26 = IntKind.i64.wrap (n23 + n25) → R (.returned (.int .i64 n26)) w) (∃ (b27 : UInt8), (0 ≤ (IntKind.u8.wrap n20) ∧ ((ByteArray.mk (#[0, 1, 2, 2, 3, 3, 3, 3, 4, 4, 4, 4, 4, 4, 4, 4, 5, 5, 5, 5, 5, 5, 5, 5, 5, 5, 5, 5, 5, 5, 5, 5, 6, 6, 6, 6, 6, 6, 6, 6, 6, 6, 6, 6, 6, 6, 6, 6, 6, 6, 6, 6, 6, 6, 6, 6, 6, 6, 6, 6, 6, 6, 6, 6, 7, 7, 7, 7, 7, 7, 7, 7, 7, 7, 7, 7, 7, 7, 7, 7, 7, 7, 7, 7, 7, 7, 7, 7, 7, 7, 7, 7, 7, 7, 7, 7, 7, 7, 7, 7, 7, 7, 7, 7, 7, 7, 7, 7, 7, 7, 7, 7, 7, 7, 7, 7, 7, 7, 7, 7, 7, 7, 7, 7, 7, 7, 7, 7, 8, 8, 8, 8, 8, 8, 8, 8, 8, 8, 8, 8, 8, 8, 8, 8, 8, 8, 8, 8, 8, 8, 8, 8, 8, 8, 8, 8, 8, 8, 8, 8, 8, 8, 8, 8, 8, 8, 8, 8, 8, 8, 8, 8, 8, 8, 8, 8, 8, 8, 8, 8, 8, 8, 8, 8, 8, 8, 8, 8, 8, 8, 8, 8, 8, 8, 8, 8, 8, 8, 8, 8, 8, 8, 8, 8, 8, 8, 8, 8, 8, 8, 8, 8, 8, 8, 8, 8, 8, 8, 8, 8, 8, 8, 8, 8, 8, 8, 8, 8, 8, 8, 8, 8, 8, 8, 8, 8, 8, 8, 8, 8, 8, 8, 8, 8, 8, 8, 8, 8, 8, 8, 8, 8, 8, 8, 8, 8]) : ByteArray)).data[(IntKind.u8.wrap n20).toNat]? = some b27) ∧ ∀ n28 : Int, n28 = IntKind.i64.wrap (b27.toNat : Int) → ∀ n29 : Int, n29 = IntKind.i64.wrap (n21 + n28) → R (.returned (.int .i64 n29)) w)) (ifB (decide (x ≥ 256)) (0 ≤ (8 : Int) ∧ ∀ n30 : Int, n30 = Int.fdiv x (2 ^ (min (8 : Int).toNat (IntKind.bits .u64))) → ∀ n31 : Int, n31 = IntKind.i64.wrap ((0 : Int) + 8) → ∃ (b32 : UInt8), (0 ≤ (IntKind.u8.wrap n30) ∧ ((ByteArray.mk (#[0, 1, 2, 2, 3, 3, 3, 3, 4, 4, 4, 4, 4, 4, 4, 4, 5, 5, 5, 5, 5, 5, 5, 5, 5, 5, 5, 5, 5, 5, 5, 5, 6, 6, 6, 6, 6, 6, 6, 6, 6, 6, 6, 6, 6, 6, 6, 6, 6, 6, 6, 6, 6, 6, 6, 6, 6, 6, 6, 6, 6, 6, 6, 6, 7, 7, 7, 7, 7, 7, 7, 7, 7, 7, 7, 7, 7, 7, 7, 7, 7, 7, 7, 7, 7, 7, 7, 7, 7, 7, 7, 7, 7, 7, 7, 7, 7, 7, 7, 7, 7, 7, 7, 7, 7, 7, 7, 7, 7, 7, 7, 7, 7, 7, 7, 7, 7, 7, 7, 7, 7, 7, 7, 7, 7, 7, 7, 7, 8, 8, 8, 8, 8, 8, 8, 8, 8, 8, 8, 8, 8, 8, 8, 8, 8, 8, 8, 8, 8, 8, 8, 8, 8, 8, 8, 8, 8, 8, 8, 8, 8, 8, 8, 8, 8, 8, 8, 8, 8, 8, 8, 8, 8, 8, 8, 8, 8, 8, 8, 8, 8, 8, 8, 8, 8, 8, 8, 8, 8, 8, 8, 8, 8, 8, 8, 8, 8, 8, 8, 8, 8, 8, 8, 8, 8, 8, 8, 8, 8, 8, 8, 8, 8, 8, 8, 8, 8, 8, 8, 8, 8, 8, 8, 8, 8, 8, 8, 8, 8, 8, 8, 8, 8, 8, 8, 8, 8, 8, 8, 8, 8, 8, 8, 8, 8, 8, 8, 8, 8, 8, 8, 8, 8, 8, 8, 8]) : ByteArray)).data[(IntKind.u8.wrap n30).toNat]? = some b32) ∧ ∀ n33 : Int, n33 = IntKind.i64.wrap (b32.toNat : Int) → ∀ n34 : Int, n34 = IntKind.i64.wrap (n31 + n33) → R (.returned (.int .i64 n34)) w) (∃ (b35 : UInt8), (0 ≤ (IntKind.u8.wrap x) ∧ ((ByteArray.mk (#[0, 1, 2, 2, 3, 3, 3, 3, 4, 4, 4, 4, 4, 4, 4, 4, 5, 5, 5, 5, 5, 5, 5, 5, 5, 5, 5, 5, 5, 5, 5, 5, 6, 6, 6, 6, 6, 6, 6, 6, 6, 6, 6, 6, 6, 6, 6, 6, 6, 6, 6, 6, 6, 6, 6, 6, 6, 6, 6, 6, 6, 6, 6, 6, 7, 7, 7, 7, 7, 7, 7, 7, 7, 7, 7, 7, 7, 7, 7, 7, 7, 7, 7, 7, 7, 7, 7, 7, 7, 7, 7, 7, 7, 7, 7, 7, 7, 7, 7, 7, 7, 7, 7, 7, 7, 7, 7, 7, 7, 7, 7, 7, 7, 7, 7, 7, 7, 7, 7, 7, 7, 7, 7, 7, 7, 7, 7, 7, 8, 8, 8, 8, 8, 8, 8, 8, 8, 8, 8, 8, 8, 8, 8, 8, 8, 8, 8, 8, 8, 8, 8, 8, 8, 8, 8, 8, 8, 8, 8, 8, 8, 8, 8, 8, 8, 8, 8, 8, 8, 8, 8, 8, 8, 8, 8,
 8, 8, 8, 8, 8, 8, 8, 8, 8, 8, 8, 8, 8, 8, 8, 8, 8, 8, 8, 8, 8, 8, 8, 8, 8, 8, 8, 8, 8, 8, 8, 8, 8, 8, 8, 8, 8, 8, 8, 8, 8, 8, 8, 8, 8, 8, 8, 8, 8, 8, 8, 8, 8, 8, 8, 8, 8, 8, 8, 8, 8, 8, 8, 8, 8, 8, 8, 8, 8, 8, 8, 8, 8, 8, 8, 8, 8, 8, 8, 8, 8]) : ByteArray)).data[(IntKind.u8.wrap x).toNat]? = some b35) ∧ ∀ n36 : Int, n36 = IntKind.i64.wrap (b35.toNat : Int) → ∀ n37 : Int, n37 = IntKind.i64.wrap ((0 : Int) + n36) → R (.returned (.int .i64 n37)) w)))
theorem sx165.ok {x : Int} {R : Ending → World → Prop} {w : World} (h : sx165 x R w) : Aa Tryz.prog 165 [.int .u64 x] w R :=
 okOf { named := [6, 10, 12, 16, 18, 23, 24] } mix Tryz.func165 (by kernel_rfl) (by kernel_rfl) (by kernel_rfl) h
def sx132 (x : Int) (R : Ending → World → Prop) (w : World) : Prop :=
 Aa Tryz.prog 165 [.int .u64 x] w (RetR R fun u2 w1 => ∃ n3, u2 = .int .i64 n3 ∧ R (.returned (.int .i64 n3)) w1)
theorem sx132.ok {x : Int} {R : Ending → World → Prop} {w : World} (h : sx132 x R w) : Aa Tryz.prog 132 [.int .u64 x] w R :=
 okOf {} mix Tryz.func132 (by kernel_rfl) (by kernel_rfl) (by kernel_rfl) h
set_option maxHeartbeats 1000000 in
theorem Aa5 {x : Int} {w : World} (h0 : 0 ≤ x) (h1 : x < 18446744073709551616) : Aa Tryz.prog 165 [.int .u64 x] w (Rets (LenP x w)) := by
 refine sx165.ok ?_
 unfold sx165
 have s32 : ∀ y : Int, 0 ≤ y → Int.fdiv y (2 ^ (min (32 : Int).toNat (IntKind.bits .u64))) = y / 4294967296 := fun y hy => Ov hy 32 32 rfl (by decide)
 have s16 : ∀ y : Int, 0 ≤ y → Int.fdiv y (2 ^ (min (16 : Int).toNat (IntKind.bits .u64))) = y / 65536 := fun y hy => Ov hy 16 16 rfl (by decide)
 have s8 : ∀ y : Int, 0 ≤ y → Int.fdiv y (2 ^ (min (8 : Int).toNat (IntKind.bits .u64))) = y / 256 := fun y hy => Ov hy 8 8 rfl (by decide)
 refine ⟨fun ha => ⟨by decide, ?_⟩, fun ha => ?_⟩
 ·simp only [decide_eq_true_eq, ge_iff_le] at ha
  rintro n1 rfl
  rw [s32 x h0]
  refine ⟨fun hb => ⟨by decide, ?_⟩, fun hb => ?_⟩
  ·simp only [decide_eq_true_eq, ge_iff_le] at hb
   rintro n2 rfl n3 rfl
   rw [s16 _ (by omega)]
   refine ⟨fun hc => ⟨by decide, ?_⟩, fun hc => ?_⟩
   ·simp only [decide_eq_true_eq, ge_iff_le] at hc
    rintro n4 rfl n5 rfl
    rw [s8 _ (by omega)]
    exact Gw (k := 56) (by kernel_rfl) (by omega) (by omega) (by decide) (by decide) (fun _ => ⟨by omega, by omega⟩)
   ·simp only [decide_eq_false_iff_not, ge_iff_le] at hc
    exact Gw (k := 48) (by kernel_rfl) (by omega) (by omega) (by decide) (by decide) (fun _ => ⟨by omega, by omega⟩)
  ·simp only [decide_eq_false_iff_not, ge_iff_le] at hb
   refine ⟨fun hc => ⟨by decide, ?_⟩, fun hc => ?_⟩
   ·simp only [decide_eq_true_eq, ge_iff_le] at hc
    rintro n4 rfl n5 rfl
    rw [s8 _ (by omega)]
    exact Gw (k := 40) (by kernel_rfl) (by omega) (by omega) (by decide) (by decide) (fun _ => ⟨by omega, by omega⟩)
   ·simp only [decide_eq_false_iff_not, ge_iff_le] at hc
    exact Gw (k := 32) (by kernel_rfl) (by omega) (by omega) (by decide) (by decide) (fun _ => ⟨by omega, by omega⟩)
 ·simp only [decide_eq_false_iff_not, ge_iff_le] at ha
  refine ⟨fun hb => ⟨by decide, ?_⟩, fun hb => ?_⟩
  ·simp only [decide_eq_true_eq, ge_iff_le] at hb
   rintro n2 rfl n3 rfl
   rw [s16 _ (by omega)]
   refine ⟨fun hc => ⟨by decide, ?_⟩, fun hc => ?_⟩
   ·simp only [decide_eq_true_eq, ge_iff_le] at hc
    rintro n4 rfl n5 rfl
    rw [s8 _ (by omega)]
    exact Gw (k := 24) (by kernel_rfl) (by omega) (by omega) (by decide) (by decide) (fun _ => ⟨by omega, by omega⟩)
   ·simp only [decide_eq_false_iff_not, ge_iff_le] at hc
    exact Gw (k := 16) (by kernel_rfl) (by omega) (by omega) (by decide) (by decide) (fun _ => ⟨by omega, by omega⟩)
  ·simp only [decide_eq_false_iff_not, ge_iff_le] at hb
   refine ⟨fun hc => ⟨by decide, ?_⟩, fun hc => ?_⟩
   ·simp only [decide_eq_true_eq, ge_iff_le] at hc
    rintro n4 rfl n5 rfl
    rw [s8 _ (by omega)]
    exact Gw (k := 8) (by kernel_rfl) (by omega) (by omega) (by decide) (by decide) (fun _ => ⟨by omega, by omega⟩)
   ·simp only [decide_eq_false_iff_not, ge_iff_le] at hc
    exact Gw (k := 0) (by kernel_rfl) (by omega) (by omega) (by decide) (by decide) (fun _ => ⟨by omega, by omega⟩)
theorem Aa6 {x : Int} {w : World} (h0 : 0 ≤ x) (h1 : x < 18446744073709551616) : Aa Tryz.prog 132 [.int .u64 x] w (Rets (LenP x w)) := by
 refine sx132.ok ?_
 unfold sx132
 refine (Aa5 h0 h1).use fun v w1 ⟨m, hv, hm, hp, hw⟩ => ?_
 subst hv
 exact ⟨_, rfl, _, rfl, m, rfl, hm, hp, hw⟩
end Go.Proofs.YtcpkneemhfnanaaGreat
namespace Go.Proofs.YtcpkneemhfnanaaGreat
open Go.Sx
set_option maxRecDepth 100000
set_option linter.unusedVariables false
set_option linter.unusedSimpArgs false
def sx178 (length : Int) (R : Ending → World → Prop) (w : World) : Prop :=
 Aa Tryz.prog 132 [.int .u64 (IntKind.u64.wrap length)] w (RetR R fun u2 w1 => ∃ n3, u2 = .int .i64 n3 ∧ 0 ≤ n3 ∧ ∀ n5 : Int, n5 = IntKind.u64.wrap ((1 : Int) * 2 ^ (min n3.toNat (IntKind.bits .u64))) → R (.returned (.int .u64 n5)) w1)
theorem sx178.ok {length : Int} {R : Ending → World → Prop} {w : World} (h : sx178 length R w) : Aa Tryz.prog 178 [.int .i64 length] w R :=
 okOf { named := [6] } mix Tryz.func178 (by kernel_rfl) (by kernel_rfl) (by kernel_rfl) h
def sx179 (r : Nat) (R : Ending → World → Prop) (w : World) : Prop :=
 ∀ w1, Grew w w1 → ∃ n2, w1.cell? ⟨r, 0, none⟩ = some (.int .u64 n2) ∧ ∃ n3, w1.cell? ⟨r, 0, none⟩ = some (.int .u64 n3) ∧ 0 ≤ (13 : Int) ∧ ∀ n4 : Int, n4 = IntKind.u64.wrap (n3 * 2 ^ (min (13 : Int).toNat (IntKind.bits .u64))) → Af w1 ⟨r, 0, none⟩ 0 [.int .u64 (Go.bits .xor .u64 n2 n4)] ∧ ∀ w5, w5 = setCells w1 ⟨r, 0, none⟩ 0 [.int .u64 (Go.bits .xor .u64 n2 n4)] → ∀ w6, Grew w5 w6 → ∃ n7, w6.cell? ⟨r, 0, none⟩ = some (.int .u64 n7) ∧ ∃ n8, w6.cell? ⟨r, 0, none⟩ = some (.int .u64 n8) ∧ 0 ≤ (7 : Int) ∧ ∀ n9 : Int, n9 = Int.fdiv n8 (2 ^ (min (7 : Int).toNat (IntKind.bits .u64))) → Af w6 ⟨r, 0, none⟩ 0 [.int .u64 (Go.bits .xor .u64 n7 n9)] ∧ ∀ w10, w10 = setCells w6 ⟨r, 0, none⟩ 0 [.int .u64 (Go.bits .xor .u64 n7 n9)] → ∀ w11, Grew w10 w11 → ∃ n12, w11.cell? ⟨r, 0, none⟩ = some (.int .u64 n12) ∧ ∃ n13, w11.cell? ⟨r, 0, none⟩ = some (.int .u64 n13) ∧ 0 ≤ (17 : Int) ∧ ∀ n14 : Int, n14 = IntKind.u64.wrap (n13 * 2 ^ (min (17 : Int).toNat (IntKind.bits .u64))) → Af w11 ⟨r, 0, none⟩ 0 [.int .u64 (Go.bits .xor .u64 n12 n14)] ∧ ∀ w15, w15 = setCells w11 ⟨r, 0, none⟩ 0 [.int .u64 (Go.bits .xor .u64 n12 n14)] → ∃ n16, w15.cell? ⟨r, 0, none⟩ = some (.int .u64 n16) ∧ R (.returned (.int .u64 n16)) w15
theorem sx179.ok {r : Nat} {R : Ending → World → Prop} {w : World} (h : sx179 r R w) : Aa Tryz.prog 179 [.pointer (some ⟨r, 0, none⟩)] w R :=
 okOf { named := [9, 18, 27], draws := [(1, { order := (ol [0,1,2,3,4,5,6,7,8,9] .nil), bars := [9] }), (2, { order := (ol [0,1,2,3,4,5,6,7,8,9] .nil), bars := [9] }), (3, { order := (ol [0,1,2,3,4,5,6,7,8,9] .nil), bars := [9] })] } mix Tryz.func179 (by kernel_rfl) (by kernel_rfl) (by kernel_rfl) h
theorem Ve {l : Nat} {w : World} (h0 : 0 < l) (h1 : l < 2305843009213693952) : Aa Tryz.prog 178 [.int .i64 l] w (Rets fun v w' => ∃ q : Int, v = .int .u64 q ∧ 1 ≤ q ∧ q ≤ 2 * l ∧ w' = w) := by
 refine sx178.ok ?_
 unfold sx178
 have e1 : IntKind.u64.wrap (l : Int) = l := by rw [IntKind.wrap_u64]; omega
 rw [e1]
 refine (Aa6 (by omega) (by omega)).use fun v w1 ⟨m, hv, hm, hp, hw⟩ => ?_
 subst hv; subst hw
 refine ⟨_, rfl, by omega, ?_⟩
 rintro n5 rfl
 have hp' := hp (by omega)
 have h2 : (0 : Int) < 2 ^ m := Int.pow_pos (by decide)
 have e2 : min ((m : Int)).toNat (IntKind.bits .u64) = m := by simp [IntKind.bits]; omega
 rw [e2, Int.one_mul]
 have e3 : IntKind.u64.wrap ((2 : Int) ^ m) = 2 ^ m := by rw [IntKind.wrap_u64]; omega
 rw [e3]
 exact ⟨_, rfl, _, rfl, by omega, hp', rfl⟩
theorem Aa7 {r : Nat} {e : TypeId} {x : Int} {w : World} (h : Row w r e [.int .u64 x]) : Aa Tryz.prog 179 [.pointer (some ⟨r, 0, none⟩)] w (Rets fun v w' => ∃ y : Int, v = .int .u64 y ∧ 0 ≤ y ∧ y < 18446744073709551616 ∧ Row w' r e [.int .u64 y] ∧ Upd (fun b => b = r) w w') := by
 refine sx179.ok ?_
 unfold sx179
 intro w1 hg1
 have h1 := h.grew hg1
 refine ⟨x, by rw [h1.cell]; rfl, x, by rw [h1.cell]; rfl, by decide, ?_⟩
 rintro n4 rfl
 obtain ⟨hr, hrow, hu⟩ := h1.set1 (o := 0) (by simp) (.int .u64 (Go.bits .xor .u64 x (IntKind.u64.wrap (x * 2 ^ (min (13 : Int).toNat (IntKind.bits .u64))))))
 refine ⟨hr, ?_⟩
 rintro w5 rfl
 generalize Go.bits .xor .u64 x (IntKind.u64.wrap (x * 2 ^ (min (13 : Int).toNat (IntKind.bits .u64)))) = x2 at hrow hu ⊢
 generalize setCells w1 ⟨r, 0, none⟩ 0 [.int .u64 x2] = w5 at hrow hu ⊢
 intro w6 hg6
 have h6 : Row w6 r e [.int .u64 x2] := Row.grew hrow hg6
 refine ⟨x2, by rw [h6.cell]; rfl, x2, by rw [h6.cell]; rfl, by decide, ?_⟩
 rintro n9 rfl
 obtain ⟨hr, hrow6, hu6⟩ := h6.set1 (o := 0) (by simp) (.int .u64 (Go.bits .xor .u64 x2 (Int.fdiv x2 (2 ^ (min (7 : Int).toNat (IntKind.bits .u64))))))
 refine ⟨hr, ?_⟩
 rintro w10 rfl
 generalize Go.bits .xor .u64 x2 (Int.fdiv x2 (2 ^ (min (7 : Int).toNat (IntKind.bits .u64)))) = x3 at hrow6 hu6 ⊢
 generalize setCells w6 ⟨r, 0, none⟩ 0 [.int .u64 x3] = w10 at hrow6 hu6 ⊢
 intro w11 hg11
 have h11 : Row w11 r e [.int .u64 x3] := Row.grew hrow6 hg11
 refine ⟨x3, by rw [h11.cell]; rfl, x3, by rw [h11.cell]; rfl, by decide, ?_⟩
 rintro n14 rfl
 obtain ⟨hr, hrow11, hu11⟩ := h11.set1 (o := 0) (by simp) (.int .u64 (Go.bits .xor .u64 x3 (IntKind.u64.wrap (x3 * 2 ^ (min (17 : Int).toNat (IntKind.bits .u64))))))
 refine ⟨hr, ?_⟩
 rintro w15 rfl
 have hx := Xv x3 (IntKind.u64.wrap (x3 * 2 ^ (min (17 : Int).toNat (IntKind.bits .u64))))
 generalize Go.bits .xor .u64 x3 (IntKind.u64.wrap (x3 * 2 ^ (min (17 : Int).toNat (IntKind.bits .u64)))) = x4 at hrow11 hu11 hx ⊢
 generalize setCells w11 ⟨r, 0, none⟩ 0 [.int .u64 x4] = w15 at hrow11 hu11 ⊢
 have h15 : Row w15 r e [.int .u64 x4] := hrow11
 exact ⟨x4, by rw [h15.cell]; rfl, _, rfl, x4, rfl, hx.1, hx.2, h15, ((((hg1.upd.trans hu).then_grew hg6).trans hu6).then_grew hg11).trans hu11⟩
end Go.Proofs.YtcpkneemhfnanaaGreat
