/- What slices.Sort hands back. Conditions: none. -/
import Derived.Test.YtcpkneemhfnanaaGreatProg
import Derived.Test.YtcpkneemhfnanaaGreatRand
namespace Go.Proofs.YtcpkneemhfnanaaGreat
open Go.Sx
set_option maxRecDepth 100000
set_option linter.unusedVariables false
set_option linter.unusedSimpArgs false
def sx187 (d : Option Addr) (d_n d_c : Nat) (i p2 : Int) (R : Ending → World → Prop) (w : World) : Prop :=
  ifB (decide ((IntKind.i64.wrap (p2 - i)) ≥ 8)) (∀ n1 : Int, n1 = IntKind.u64.wrap (IntKind.i64.wrap (p2 - i)) → ∀ b2 w3, Ag w w3 b2 (.cells [.int .u64 0].toArray 228) → Af w3 ⟨b2, 0, none⟩ 0 [.int .u64 n1] ∧ ∀ w4, w4 = setCells w3 ⟨b2, 0, none⟩ 0 [.int .u64 n1] → Aa Tryz.prog 178 [.int .i64 (IntKind.i64.wrap (p2 - i))] w4 (RetR R fun u6 w5 => ∃ n7, u6 = .int .u64 n7 ∧ (((4 : Int) = 0 → R (.panicked (Bq Tryz.prog)) w5) ∧ ((4 : Int) ≠ 0 → ∀ n9 : Int, n9 = IntKind.i64.wrap (Int.tdiv (IntKind.i64.wrap (p2 - i)) 4) → ∀ n10 : Int, n10 = IntKind.i64.wrap (i + (IntKind.i64.wrap (n9 * 2))) → ∃ (I11 : Int → World → Prop) (m11 : Int → World → Nat), I11 (IntKind.i64.wrap (n10 - 1)) w5 ∧ ∀ n12 w13, I11 n12 w13 → (((4 : Int) = 0 → R (.panicked (Bq Tryz.prog)) w13) ∧ ((4 : Int) ≠ 0 → ∀ n14 : Int, n14 = IntKind.i64.wrap (Int.tdiv (IntKind.i64.wrap (p2 - i)) 4) → ∀ n15 : Int, n15 = IntKind.i64.wrap (i + (IntKind.i64.wrap (n14 * 2))) → ifB (decide (n12 ≤ IntKind.i64.wrap (n15 + 1))) (Aa Tryz.prog 179 [.pointer (some ⟨b2, 0, none⟩)] w13 (RetR R fun u17 w16 => ∃ n18, u17 = .int .u64 n18 ∧ ∀ n20 : Int, n20 = Go.bits .and .u64 n18 (IntKind.u64.wrap (n7 - 1)) → ifB (decide ((IntKind.i64.wrap n20) ≥ IntKind.i64.wrap (p2 - i))) (∀ n21 : Int, n21 = IntKind.i64.wrap ((IntKind.i64.wrap n20) - (IntKind.i64.wrap (p2 - i))) → ∀ w22, Grew w16 w22 → ∀ n23 : Int, n23 = IntKind.i64.wrap (i + n21) → ∀ n24 : Int, n24 = IntKind.i64.wrap (i + n21) → Ab d (fun d25 => (0 ≤ n24 ∧ n24 < (d_n : Nat)) ∧ ∃ n26, w22.cell? (Addr.add d25 (n24.toNat * 1)) = some (.int .u64 n26) ∧ Ab d (fun d27 => (0 ≤ n12 ∧ n12 < (d_n : Nat)) ∧ ∃ n28, w22.cell? (Addr.add d27 (n12.toNat * 1)) = some (.int .u64 n28) ∧ Ab d (fun d29 => (0 ≤ n12 ∧ n12 < (d_n : Nat)) ∧ Af w22 (Addr.add d29 (n12.toNat * 1)) 0 [.int .u64 n26] ∧ ∀ w30, w30 = setCells w22 (Addr.add d29 (n12.toNat * 1)) 0 [.int .u64 n26] → Ab d (fun d31 => (0 ≤ n23 ∧ n23 < (d_n : Nat)) ∧ Af w30 (Addr.add d31 (n23.toNat * 1)) 0 [.int .u64 n28] ∧ ∀ w32, w32 = setCells w30 (Addr.add d31 (n23.toNat * 1)) 0 [.int .u64 n28] → (I11 (IntKind.i64.wrap (n12 + 1)) w32 ∧ m11 (IntKind.i64.wrap (n12 + 1)) w32 < m11 n12 w13)))))) (∀ w33, Grew w16 w33 → ∀ n34 : Int, n34 = IntKind.i64.wrap (i + (IntKind.i64.wrap n20)) → ∀ n35 : Int, n35 = IntKind.i64.wrap (i + (IntKind.i64.wrap n20)) → Ab d (fun d36 => (0 ≤ n35 ∧ n35 < (d_n : Nat)) ∧ ∃ n37, w33.cell? (Addr.add d36 (n35.toNat * 1)) = some (.int .u64 n37) ∧ Ab d (fun d38 => (0 ≤ n12 ∧ n12 < (d_n : Nat)) ∧ ∃ n39, w33.cell? (Addr.add d38 (n12.toNat * 1)) = some (.int .u64 n39) ∧ Ab d (fun d40 => (0 ≤ n12 ∧ n12 < (d_n : Nat)) ∧ Af w33 (Addr.add d40 (n12.toNat * 1)) 0 [.int .u64 n37] ∧ ∀ w41, w41 = setCells w33 (Addr.add d40 (n12.toNat * 1)) 0 [.int .u64 n37] → Ab d (fun d42 => (0 ≤ n34 ∧ n34 < (d_n : Nat)) ∧ Af w41 (Addr.add d42 (n34.toNat * 1)) 0 [.int .u64 n39] ∧ ∀ w43, w43 = setCells w41 (Addr.add d42 (n34.toNat * 1)) 0 [.int .u64 n39] →
 (I11 (IntKind.i64.wrap (n12 + 1)) w43 ∧ m11 (IntKind.i64.wrap (n12 + 1)) w43 < m11 n12 w13)))))))) (R (.returned (.tuple #[])) w13))))))) (R (.returned (.tuple #[])) w)
theorem sx187.ok {d : Option Addr} {d_n d_c : Nat} {i p2 : Int} {R : Ending → World → Prop} {w : World} (h : sx187 d d_n d_c i p2 R w) : Aa Tryz.prog 187 [.slice d d_n d_c, .int .i64 i, .int .i64 p2] w R :=
 okOf { named := [17, 22, 24, 29, 31, 39, 46, 52, 56], draws := [(10, { order := (ol [0,1,2,3,4,5,6,7,8,9,10,11,12,13,14,15,16,17,18,19] .nil), bars := [17, 19] })], loops := [(5, { slots := [(9, .int .i64)], cells := [] })] } mix Tryz.func187 (by kernel_rfl) (by kernel_rfl) (by kernel_rfl) h
def sx171 (d : Option Addr) (d_n d_c : Nat) (i p2 p3 : Int) (R : Ending → World → Prop) (w : World) : Prop :=
  ∃ (I1 : Int → Int → Int → Bool → Bool → World → Prop) (m1 : Int → Int → Int → Bool → Bool → World → Nat), I1 i p2 p3 true true w ∧ ∀ n2 n3 n4 b5 b6 w7, I1 n2 n3 n4 b5 b6 w7 → ifB (decide ((IntKind.i64.wrap (n3 - n2)) ≤ 12)) (Aa Tryz.prog 185 [.slice d d_n d_c, .int .i64 n2, .int .i64 n3] w7 (RetR R fun u9 w8 => u9 = .tuple #[] ∧ R (.returned (.tuple #[])) w8)) (ifB (n4 == 0) (Aa Tryz.prog 186 [.slice d d_n d_c, .int .i64 n2, .int .i64 n3] w7 (RetR R fun u12 w11 => u12 = .tuple #[] ∧ R (.returned (.tuple #[])) w11)) (∃ J14 : Int → World → Prop, (ifB (!b5) (Aa Tryz.prog 187 [.slice d d_n d_c, .int .i64 n2, .int .i64 n3] w7 (RetR R fun u16 w15 => u16 = .tuple #[] ∧ J14 (IntKind.i64.wrap (n4 - 1)) w15)) (J14 n4 w7)) ∧ ∀ n18 w19, J14 n18 w19 → Aa Tryz.prog 188 [.slice d d_n d_c, .int .i64 n2, .int .i64 n3] w19 (RetR R fun u21 w20 => ∃ n22 n23, u21 = .tuple #[.int .i64 n22, .int .i64 n23] ∧ ∃ J25 : Int → Int → World → Prop, (ifB (n23 == 2) (Aa Tryz.prog 189 [.slice d d_n d_c, .int .i64 n2, .int .i64 n3] w20 (RetR R fun u27 w26 => u27 = .tuple #[] ∧ ∀ n29 : Int, n29 = IntKind.i64.wrap (n22 - n2) → ∀ n30 : Int, n30 = IntKind.i64.wrap ((IntKind.i64.wrap (n3 - 1)) - n29) → J25 n30 1 w26)) (J25 n22 n23 w20)) ∧ ∀ n31 n32 w33, J25 n31 n32 w33 → ∃ J34 : World → Prop, (ifB b5 (ifB b6 (ifB (n32 == 1) (Aa Tryz.prog 190 [.slice d d_n d_c, .int .i64 n2, .int .i64 n3] w33 (RetR R fun u36 w35 => ∃ b37, u36 = .bool b37 ∧ ifB b37 (R (.returned (.tuple #[])) w35) (J34 w35))) (J34 w33)) (J34 w33)) (J34 w33)) ∧ ∀ w39, J34 w39 → ∃ J40 : Int → World → Prop, (∀ w41, Grew w39 w41 → ifB (decide (n2 > 0)) (Ab d (fun d42 => (0 ≤ (IntKind.i64.wrap (n2 - 1)) ∧ (IntKind.i64.wrap (n2 - 1)) < (d_n : Nat)) ∧ ∃ n43, w41.cell? (Addr.add d42 ((IntKind.i64.wrap (n2 - 1)).toNat * 1)) = some (.int .u64 n43) ∧ Ab d (fun d44 => (0 ≤ n31 ∧ n31 < (d_n : Nat)) ∧ ∃ n45, w41.cell? (Addr.add d44 (n31.toNat * 1)) = some (.int .u64 n45) ∧ Aa Tryz.prog 191 [.int .u64 n43, .int .u64 n45] w41 (RetR R fun u47 w46 => ∃ b48, u47 = .bool b48 ∧ Ad w41 w46 [(Addr.add d44 (n31.toNat * 1)), (Addr.add d42 ((IntKind.i64.wrap (n2 - 1)).toNat * 1))] ∧ ifB (!b48) (Aa Tryz.prog 192 [.slice d d_n d_c, .int .i64 n2, .int .i64 n3, .int .i64 n31] w46 (RetR R fun u51 w50 => ∃ n52, u51 = .int .i64 n52 ∧ (I1 n52 n3 n18 b5 b6 w50 ∧ m1 n52 n3 n18 b5 b6 w50 < m1 n2 n3 n4 b5 b6 w7))) (J40 n2 w46))))) (J40 n2 w41)) ∧ ∀ n54 w55, J40 n54 w55 → Aa Tryz.prog 193 [.slice d d_n d_c, .int .i64 n54, .int .i64 n3, .int .i64 n31] w55 (RetR R fun u57 w56 => ∃ n58 b59, u57 = .tuple #[.int .i64 n58, .bool b59] ∧ ∀ n61 : Int, n61 = IntKind.i64.wrap (n58 - n54) → ∀ n62 : Int, n62 = IntKind.i64.wrap (n3 - n58) → (((8 : Int) = 0 → R (.panicked (Bq Tryz.prog)) w56) ∧ ((8 : Int) ≠ 0 → ∀ n63 : Int, n63 = IntKind.i64.wrap (Int.tdiv (IntKind.i64.wrap (n3 - n2)) 8) → ifB (decide (n61 < n62)) (Aa Tryz.prog 171 [.slice d d_n d_c, .int .i64 n54, .int .i64 n58, .int .i64 n18] w56 (RetR R fun u65 w64 => u65
 = .tuple #[] ∧ (I1 (IntKind.i64.wrap (n58 + 1)) n3 n18 (decide (n61 ≥ n63)) b59 w64 ∧ m1 (IntKind.i64.wrap (n58 + 1)) n3 n18 (decide (n61 ≥ n63)) b59 w64 < m1 n2 n3 n4 b5 b6 w7))) (Aa Tryz.prog 171 [.slice d d_n d_c, .int .i64 (IntKind.i64.wrap (n58 + 1)), .int .i64 n3, .int .i64 n18] w56 (RetR R fun u68 w67 => u68 = .tuple #[] ∧ (I1 n54 n58 n18 (decide (n62 ≥ n63)) b59 w67 ∧ m1 n54 n58 n18 (decide (n62 ≥ n63)) b59 w67 < m1 n2 n3 n4 b5 b6 w7)))))))))
theorem sx171.ok {d : Option Addr} {d_n d_c : Nat} {i p2 p3 : Int} {R : Ending → World → Prop} {w : World} (h : sx171 d d_n d_c i p2 p3 R w) : Aa Tryz.prog 171 [.slice d d_n d_c, .int .i64 i, .int .i64 p2, .int .i64 p3] w R :=
 okOf { named := [59, 60, 105, 108, 110], draws := [(17, { order := (ol [0,1,2,3,4,5,6,7,8,9,10,11,12,13,14] .nil), bars := [] })], loops := [(2, { slots := [(1, .int .i64), (2, .int .i64), (3, .int .i64), (8, .bool), (9, .bool)], cells := [] })], cuts := [(10, { slots := [(3, .int .i64)], cells := [] }), (15, { slots := [(11, .int .i64), (12, .int .i64)], cells := [] }), (17, { slots := [], cells := [] }), (20, { slots := [(1, .int .i64)], cells := [] })] } mix Tryz.func171 (by kernel_rfl) (by kernel_rfl) (by kernel_rfl) h
def sx135 (x : Option Addr) (x_n x_c : Nat) (R : Ending → World → Prop) (w : World) : Prop :=
 ∀ n1 : Int, n1 = IntKind.u64.wrap ((x_n : Nat) : Int) → Aa Tryz.prog 132 [.int .u64 n1] w (RetR R fun u3 w2 => ∃ n4, u3 = .int .i64 n4 ∧ Aa Tryz.prog 171 [.slice x x_n x_c, .int .i64 0, .int .i64 ((x_n : Nat) : Int), .int .i64 n4] w2 (RetR R fun u7 w6 => u7 = .tuple #[] ∧ R (.returned (.tuple #[])) w6))
theorem sx135.ok {x : Option Addr} {x_n x_c : Nat} {R : Ending → World → Prop} {w : World} (h : sx135 x x_n x_c R w) : Aa Tryz.prog 135 [.slice x x_n x_c] w R :=
 okOf { named := [8] } mix Tryz.func135 (by kernel_rfl) (by kernel_rfl) (by kernel_rfl) h
open Go.Sort
def Ae8 (B : Nat) (p : Option Addr) (n c : Nat) (w : World) (a b : Nat) (d : Array Int) (v : Value) (w' : World) : Prop := v = .tuple #[] ∧ ∃ d', Sr_U B p n c w' d' ∧ PermIn a b d d' ∧ Upd (Blk p) w w'
theorem Aa8 {B : Nat} {p : Option Addr} {n c a b : Nat} {d : Array Int} {w : World} (h : Sr_U B p n c w d) (hab : a < b) (hb : b ≤ d.size) (hsz : d.size < 2305843009213693952) :
  Aa Tryz.prog 187 [.slice p n c, .int .i64 a, .int .i64 b] w (Rets (Ae8 B p n c w a b d)) := by
 refine sx187.ok ?_
 unfold sx187
 have e0 : IntKind.i64.wrap ((b : Int) - (a : Int)) = ((b - a : Nat) : Int) := by rw [IntKind.wrap_i64]; omega
 rw [e0]
 obtain ⟨l, hl⟩ : ∃ l, l = b - a := ⟨_, rfl⟩
 rw [← hl]
 refine ⟨fun h8 => ?_, fun _ => ⟨_, rfl, rfl, d, h, permIn_refl _ _ _, Upd.refl _ _⟩⟩
 simp only [decide_eq_true_eq, ge_iff_le] at h8
 rintro n1 rfl
 intro r w3 hal
 have hrow0 : Row w3 r 228 [.int .u64 0] := hal.at_
 obtain ⟨hr, hrow, hu⟩ := hrow0.set1 (o := 0) (by simp) (.int .u64 (IntKind.u64.wrap (l : Int)))
 refine ⟨hr, ?_⟩
 rintro w4 rfl
 generalize IntKind.u64.wrap (l : Int) = x0 at hrow hu ⊢
 generalize setCells w3 ⟨r, 0, none⟩ 0 [.int .u64 x0] = w4 at hrow hu ⊢
 have hrow4 : Row w4 r 228 [.int .u64 x0] := hrow
 have hg4 : Grew w w4 := hal.grew.then_own hu fun b hb => by rw [hb]; exact hal.new
 have hpr : ¬ Blk p r := fun hb => by have := (h.blk hb).2; have := hal.new; omega
 refine (Ve (by omega) (by omega)).use fun v w5 ⟨q, hv, hq1, hq2, hw⟩ => ?_
 subst hv; subst hw
 refine ⟨q, rfl, fun h => (by cases h), fun _ => ?_⟩
 have e1 : IntKind.i64.wrap (Int.tdiv (l : Int) 4) = ((l / 4 : Nat) : Int) := by rw [Int.tdiv_eq_ediv_of_nonneg (by omega), IntKind.wrap_i64]; omega
 have e2 : IntKind.i64.wrap ((a : Int) + IntKind.i64.wrap (((l / 4 : Nat) : Int) * 2)) = ((a + l / 4 * 2 : Nat) : Int) := by
  have hq : l / 4 ≤ 2305843009213693952 := by omega
  generalize l / 4 = q4 at hq ⊢
  have e : IntKind.i64.wrap ((q4 : Int) * 2) = ((q4 * 2 : Nat) : Int) := by rw [IntKind.wrap_i64]; omega
  rw [e]
  have e' : ((a : Int) + ((q4 * 2 : Nat) : Int)) = ((a + q4 * 2 : Nat) : Int) := by omega
  rw [e']
  have hb' : a + q4 * 2 < 9223372036854775808 := by omega
  generalize a + q4 * 2 = z at hb' ⊢
  rw [IntKind.wrap_i64]; omega
 rintro n9 rfl n10 rfl
 rw [e1, e2]
 have e3 : IntKind.i64.wrap (((a + l / 4 * 2 : Nat) : Int) - 1) = ((a + l / 4 * 2 - 1 : Nat) : Int) := by rw [IntKind.wrap_i64]; omega
 have e4 : IntKind.i64.wrap (((a + l / 4 * 2 : Nat) : Int) + 1) = ((a + l / 4 * 2 + 1 : Nat) : Int) := by rw [IntKind.wrap_i64]; omega
 rw [e3]
 refine ⟨fun x w' => ∃ (k : Nat) (d' : Array Int), x = k ∧ a + l / 4 * 2 - 1 ≤ k ∧ k ≤ a + l / 4 * 2 + 2 ∧ Sr_U B p n c w' d' ∧ PermIn a b d d' ∧ (∃ y : Int, Row w' r 228 [.int .u64 y]) ∧ Upd (Blk p) w w', fun x _ => a + l / 4 * 2 + 2 - x.toNat, ⟨a + l / 4 * 2 - 1, d, rfl, Nat.le_refl _, by omega, h.grew hg4, permIn_refl _ _ _, ⟨x0, hrow4⟩, hg4.upd⟩, ?_⟩
 rintro x w13 ⟨k, d1, rfl, hk, hk2, h13, hp13, ⟨y, hrow13⟩, hu13⟩
 refine ⟨fun h => (by cases h), fun _ => ?_⟩
 rintro n14 rfl n15 rfl
 rw [e2, e4]
 refine ⟨fun hle => ?_, fun _ => ⟨_, rfl, rfl, d1, h13, hp13, hu13⟩⟩
 simp only [decide_eq_true_eq] at hle
 have hs1 : d1.size = d.size := hp13.1
 refine (Aa7 hrow13).use fun v w16 ⟨z, hv, hz0, hz1, hrow16, hu16⟩ => ?_
 subst hv
 have h16 : Sr_U B p n c w16 d1 := h13.upd hu16 (fun b hb e => hpr (e ▸ hb))
 have hu16' : Upd (Blk p) w w16 := hu13.then hu16 fun k hk e => by rw [e] at hk; have := hal.new; omega
 refine ⟨z, rfl, ?_⟩
 rintro n20 rfl
 have e5 : IntKind.u64.wrap (q - 1) = q - 1 := by rw [IntKind.wrap_u64]; omega
 rw [e5, u64_and z (q - 1) hz0 hz1 (by omega) (by omega)]
 have hand : z.toNat &&& (q - 1).toNat ≤ (q - 1).toNat := Nat.and_le_right
 obtain ⟨o, ho⟩ : ∃ o, o = z.toNat &&& (q - 1).toNat := ⟨_, rfl⟩
 rw [← ho] at hand ⊢
 have e6 : IntKind.i64.wrap (o : Int) = o := by rw [IntKind.wrap_i64]; omega
 have e7 : IntKind.i64.wrap ((k : Int) + 1) = ((k + 1 : Nat) : Int) := by rw [IntKind.wrap_i64]; omega
 rw [e6, e7]
 have hstep : ∀ (t : Nat) (w22 : World), t < l → Grew w16 w22 → (∃ (k' : Nat) (d' : Array Int), ((k + 1 : Nat) : Int) = k' ∧ True) := fun t w22 _ _ => ⟨k + 1, d1, rfl, trivial⟩
 have fin : ∀ (t : Nat) (w22 w32 : World), t < l → Grew w16 w22 → Sr_U B p n c w32 (swp d1 k (a + t)) → Upd (Blk p) w22 w32 → (∃ (k' : Nat) (d' : Array Int), ((k + 1 : Nat) : Int) = k' ∧ a + l / 4 * 2 - 1 ≤ k' ∧ k' ≤ a + l / 4 * 2 + 2 ∧ Sr_U B p n c w32 d' ∧ PermIn a b d d' ∧ (∃ y : Int, Row w32 r 228 [.int .u64 y]) ∧ Upd (Blk p) w w32) ∧ a + l / 4 * 2 + 2 - (((k + 1 : Nat) : Int)).toNat < a + l / 4 * 2 + 2 - ((k : Int)).toNat := by
  intro t w22 w32 ht hg22 h32 hu32
  exact ⟨⟨k + 1, _, rfl, by omega, by omega, h32, permIn_trans _ _ _ _ _ hp13 (swp_permIn d1 a b k (a + t) (by omega) (by omega) (by omega) (by omega) (by omega)), ⟨z, (hrow16.grew hg22).upd hu32 hpr⟩, (hu16'.then_grew hg22).trans hu32⟩, by omega⟩
 refine ⟨fun hge => ?_, fun hlt => ?_⟩
 ·simp only [decide_eq_true_eq, ge_iff_le] at hge
  rintro n21 rfl
  intro w22 hg22
  have e8 : IntKind.i64.wrap ((o : Int) - (l : Int)) = ((o - l : Nat) : Int) := by rw [IntKind.wrap_i64]; omega
  have e9 : IntKind.i64.wrap ((a : Int) + ((o - l : Nat) : Int)) = ((a + (o - l) : Nat) : Int) := by rw [IntKind.wrap_i64]; omega
  rw [e8, e9]
  have h22 := h16.grew hg22
  rintro n23 rfl n24 rfl
  refine Ar.rd h22 (i := a + (o - l)) rfl (by omega) fun q3 => Ar.rd h22 (i := k) rfl (by omega) fun q4 => Ar.st h22 (i := k) rfl (by omega) fun q5 w30 h30 hu30 => Ar.st h30 (i := a + (o - l)) rfl (by simp; omega) fun q6 w32 h32 hu32 => ?_
  exact fin (o - l) w22 w32 (by omega) hg22 h32 (hu30.trans hu32)
 ·simp only [decide_eq_false_iff_not, ge_iff_le] at hlt
  intro w22 hg22
  have e9 : IntKind.i64.wrap ((a : Int) + (o : Int)) = ((a + o : Nat) : Int) := by rw [IntKind.wrap_i64]; omega
  rw [e9]
  have h22 := h16.grew hg22
  rintro n23 rfl n24 rfl
  refine Ar.rd h22 (i := a + o) rfl (by omega) fun q3 => Ar.rd h22 (i := k) rfl (by omega) fun q4 => Ar.st h22 (i := k) rfl (by omega) fun q5 w30 h30 hu30 => Ar.st h30 (i := a + o) rfl (by simp; omega) fun q6 w32 h32 hu32 => ?_
  exact fin o w22 w32 (by omega) hg22 h32 (hu30.trans hu32)
def Ae9 (B : Nat) (p : Option Addr) (n c : Nat) (w : World) (a b : Nat) (d : Array Int) (v : Value) (w' : World) : Prop := v = .tuple #[] ∧ ∃ d', Sr_U B p n c w' d' ∧ PermIn a b d d' ∧ SortedIn ltInt a b d' ∧ Upd (Blk p) w w'
set_option maxHeartbeats 1000000 in
theorem Aa9 : ∀ (N : Nat) {B : Nat} {p : Option Addr} {n c a b : Nat} {lim : Int} {d : Array Int} {w : World} (h : Sr_U B p n c w d) (hN : b - a ≤ N) (hab : a ≤ b) (hb : b ≤ d.size) (hsz : d.size < 2305843009213693952) (hB : Go.Sort.Below ltInt a b d),
  Aa Tryz.prog 171 [.slice p n c, .int .i64 a, .int .i64 b, .int .i64 lim] w (Rets (Ae9 B p n c w a b d)) := by
 intro N
 induction N with
 | zero => ?_
 | succ N ih => ?_
 all_goals
  intro B p n c a b lim d w h hN hab hb hsz hB
  refine sx171.ok ?_
  unfold sx171
  refine ⟨fun x y _ _ _ w' => ∃ (i j : Nat) (d1 : Array Int), x = i ∧ y = j ∧ a ≤ i ∧ i ≤ j ∧ j ≤ b ∧ d1.size = d.size ∧ Sr_U B p n c w' d1 ∧ Go.Sort.Below ltInt i j d1 ∧ (∀ R, PermIn i j d1 R → SortedIn ltInt i j R → PermIn a b d R ∧ SortedIn ltInt a b R) ∧ Upd (Blk p) w w', fun x y _ _ _ _ => (y - x).toNat, ⟨a, b, d, rfl, rfl, Nat.le_refl _, hab, Nat.le_refl _, rfl, h, hB, fun R h1 h2 => ⟨h1, h2⟩, Upd.refl _ _⟩, ?_⟩
  rintro x y lim' wb wp w7 ⟨i, j, d1, rfl, rfl, hai, hij, hjb, hs1, h7, hB7, hfin, hu7⟩
  have e0 : IntKind.i64.wrap ((j : Int) - (i : Int)) = ((j - i : Nat) : Int) := by rw [IntKind.wrap_i64]; omega
  rw [e0]
  refine ⟨fun h12 => ?_, fun h12 => ?_⟩
  ·refine (Aa1 h7 hij (by omega) (by omega)).use fun v w8 ⟨hv, h8, hu8⟩ => ?_
   obtain ⟨hp, hso⟩ := insertionSort_holds (lt := ltInt) swo_ltInt d1 i j hij (by omega)
   obtain ⟨g1, g2⟩ := hfin _ hp hso
   exact ⟨hv, _, rfl, rfl, _, h8, g1, g2, hu7.trans hu8⟩
 ·simp only [decide_eq_false_iff_not] at h12
  omega
 simp only [decide_eq_false_iff_not] at h12
 have hij' : i < j := by omega
 refine ⟨fun h0 => ?_, fun h0 => ?_⟩
 ·refine (X5 h7 hij' (by omega) (by omega)).use fun v w8 ⟨hv, h8, hu8⟩ => ?_
  obtain ⟨hp, hso⟩ := heapSort_holds (lt := ltInt) swo_ltInt d1 i j hij (by omega)
  obtain ⟨g1, g2⟩ := hfin _ hp hso
  exact ⟨hv, _, rfl, rfl, _, h8, g1, g2, hu7.trans hu8⟩
 refine ⟨fun _ w' => ∃ d2, Sr_U B p n c w' d2 ∧ PermIn i j d1 d2 ∧ Upd (Blk p) w w', ⟨fun hb5 => ?_, fun hb5 => ⟨d1, h7, permIn_refl _ _ _, hu7⟩⟩, ?_⟩
 ·refine (Aa8 h7 hij' (by omega) (by omega)).use fun v w8 ⟨hv, d2, h8, hp8, hu8⟩ => ?_
  exact ⟨hv, d2, h8, hp8, hu7.trans hu8⟩
 rintro lim2 w19 ⟨d2, h19, hp19, hu19⟩
 have hs2 : d2.size = d.size := hp19.1.trans hs1
 refine (Aa4 h19 hij' (by omega) (by omega)).use fun v w20 ⟨m, hint, hv, hm1, hm2, h20, hg20⟩ => ?_
 subst hv
 refine ⟨_, _, rfl, fun x _ w' => ∃ (pv : Nat) (d3 : Array Int), x = pv ∧ i ≤ pv ∧ pv < j ∧ Sr_U B p n c w' d3 ∧ PermIn i j d1 d3 ∧ Upd (Blk p) w w', ⟨fun h2 => ?_, fun h2 => ⟨m, d2, rfl, hm1, hm2, h20, hp19, hu19.then_grew hg20⟩⟩, ?_⟩
 ·refine (Aa2 h20 hij' (by omega) (by omega)).use fun v w26 ⟨hv, h26, hu26⟩ => ⟨hv, ?_⟩
  have e1 : IntKind.i64.wrap ((m : Int) - (i : Int)) = ((m - i : Nat) : Int) := by rw [IntKind.wrap_i64]; omega
  have e2 : IntKind.i64.wrap ((j : Int) - 1) = ((j - 1 : Nat) : Int) := by rw [IntKind.wrap_i64]; omega
  have e3 : IntKind.i64.wrap (((j - 1 : Nat) : Int) - ((m - i : Nat) : Int)) = ((j - 1 - (m - i) : Nat) : Int) := by rw [IntKind.wrap_i64]; omega
  rintro n29 rfl n30 rfl
  rw [e1, e2, e3]
  exact ⟨j - 1 - (m - i), _, rfl, by omega, by omega, h26, permIn_trans _ _ _ _ _ hp19 (reverseRange_holds d2 i j hij (by omega)), (hu19.then_grew hg20).trans hu26⟩
 rintro x hint' w33 ⟨pv, d3, rfl, hpv1, hpv2, h33, hp33, hu33⟩
 have hs3 : d3.size = d.size := hp33.1.trans hs1
 have hB3 : Go.Sort.Below ltInt i j d3 := hB7.perm (by omega) hp33
 have hpar := partialInsertionSort_holds (lt := ltInt) swo_ltInt d3 i j hij' (by omega) hB3
 refine ⟨fun w' => ∃ d4, Sr_U B p n c w' d4 ∧ PermIn i j d1 d4 ∧ Upd (Blk p) w w', ⟨fun _ => ⟨fun _ => ⟨fun _ => ?_, fun _ => ⟨d3, h33, hp33, hu33⟩⟩, fun _ => ⟨d3, h33, hp33, hu33⟩⟩, fun _ => ⟨d3, h33, hp33, hu33⟩⟩, ?_⟩
 ·refine (Aa3 h33 hij' (by omega) (by omega)).use fun v w35 ⟨hv, h35, hu35⟩ => ?_
  subst hv
  have hp35 := permIn_trans _ _ _ _ _ hp33 hpar.1
  refine ⟨_, rfl, fun hT => ?_, fun _ => ⟨_, h35, hp35, hu33.trans hu35⟩⟩
  obtain ⟨g1, g2⟩ := hfin _ hp35 (hpar.2 hT)
  exact ⟨_, rfl, rfl, _, h35, g1, g2, hu33.trans hu35⟩
 rintro w39 ⟨d4, h39, hp39, hu39⟩
 have hs4 : d4.size = d.size := hp39.1.trans hs1
 have hB4 : Go.Sort.Below ltInt i j d4 := hB7.perm (by omega) hp39
 have hfin4 : ∀ R, PermIn i j d4 R → SortedIn ltInt i j R → PermIn a b d R ∧ SortedIn ltInt a b R := fun R h1 h2 => hfin R (permIn_trans _ _ _ _ _ hp39 h1) h2
 refine ⟨fun x w' => x = (i : Nat) ∧ Sr_U B p n c w' d4 ∧ Upd (Blk p) w w', fun w41 hg41 => ⟨fun hi0 => ?_, fun hi0 => ⟨rfl, h39.grew hg41, hu39.then_grew hg41⟩⟩, ?_⟩
 ·simp only [decide_eq_true_eq] at hi0
  have h41 := h39.grew hg41
  have hu41 := hu39.then_grew hg41
  have e1 : IntKind.i64.wrap ((i : Int) - 1) = ((i - 1 : Nat) : Int) := by rw [IntKind.wrap_i64]; omega
  rw [e1]
  refine Ar.rd h41 (i := i - 1) rfl (by omega) fun q1 => Ar.rd h41 (i := pv) rfl (by omega) fun q2 => Bw ⟨_, rfl, Cl _ _, fun hl => ?_, fun hl => ⟨rfl, h41, hu41⟩⟩
  have hl' : ltInt d4[i - 1]! d4[pv]! = false := by simpa using hl
  refine (Tm h41 hpv1 hpv2 (by omega) (by omega)).use fun v w50 ⟨hv, h50, hu50⟩ => ?_
  subst hv
  obtain ⟨r, hr⟩ : ∃ r, r = partitionEqual ltInt d4 i j pv := ⟨_, rfl⟩
  rw [← hr] at h50 ⊢
  obtain ⟨mid, d5⟩ := r
  simp only at h50 ⊢
  obtain ⟨g1, g2, g3, g4, g5⟩ := round_eq swo_ltInt (partitionEqual_holds ltInt) (by omega) hpv1 hpv2 (by omega) hB4 hl' hr.symm
  refine ⟨_, rfl, ⟨mid, j, d5, rfl, rfl, by omega, g2, hjb, g3.trans hs4, h50, g4, fun R h1 h2 => ?_, hu41.trans hu50⟩, by show ((j : Int) - (mid : Int)).toNat < ((j : Int) - (i : Int)).toNat; omega⟩
  obtain ⟨k1, k2⟩ := g5 R h1 h2
  exact hfin4 R k1 k2
 rintro x w55 ⟨rfl, h55, hu55⟩
 refine (X6 h55 hpv1 hpv2 (by omega) (by omega)).use fun v w56 ⟨hv, h56, hu56⟩ => ?_
 subst hv
 obtain ⟨r, hr⟩ : ∃ r, r = partition ltInt d4 i j pv := ⟨_, rfl⟩
 rw [← hr] at h56 ⊢
 obtain ⟨mid, ap, d5⟩ := r
 simp only at h56 ⊢
 obtain ⟨g1, g2, g3, g4, g5, g6, g7⟩ := round_part swo_ltInt (partition_holds ltInt) hpv1 hpv2 (by omega) hB4 hr.symm
 have hu56' := hu55.trans hu56
 have e1 : IntKind.i64.wrap ((mid : Int) - (i : Int)) = ((mid - i : Nat) : Int) := by rw [IntKind.wrap_i64]; omega
 have e2 : IntKind.i64.wrap ((j : Int) - (mid : Int)) = ((j - mid : Nat) : Int) := by rw [IntKind.wrap_i64]; omega
 have e3 : IntKind.i64.wrap ((mid : Int) + 1) = ((mid + 1 : Nat) : Int) := by rw [IntKind.wrap_i64]; omega
 refine ⟨_, _, rfl, ?_⟩
 rintro n61 rfl n62 rfl
 rw [e1, e2, e3]
 refine ⟨fun h => (by cases h), fun _ => ?_⟩
 rintro n63 rfl
 refine ⟨fun hlt => ?_, fun hge => ?_⟩
 ·refine (ih h56 (by omega) g1 (by omega) (by omega) g4).use fun v w64 ⟨hv, d6, h64, hp64, hs64, hu64⟩ => ⟨hv, ?_⟩
  obtain ⟨k1, k2⟩ := g6 d6 hp64 hs64
  refine ⟨⟨mid + 1, j, d6, rfl, rfl, by omega, by omega, hjb, hp64.1.trans (g3.trans hs4), h64, k1, fun R h1 h2 => ?_, hu56'.trans hu64⟩, by show ((j : Int) - ((mid + 1 : Nat) : Int)).toNat < ((j : Int) - (i : Int)).toNat; omega⟩
  obtain ⟨m1, m2⟩ := k2 R h1 h2
  exact hfin4 R m1 m2
 ·refine (ih h56 (by omega) (by omega) (by omega) (by omega) g5).use fun v w64 ⟨hv, d6, h64, hp64, hs64, hu64⟩ => ⟨hv, ?_⟩
  obtain ⟨k1, k2⟩ := g7 d6 hp64 hs64
  refine ⟨⟨i, mid, d6, rfl, rfl, hai, g1, by omega, hp64.1.trans (g3.trans hs4), h64, k1, fun R h1 h2 => ?_, hu56'.trans hu64⟩, by show ((mid : Int) - (i : Int)).toNat < ((j : Int) - (i : Int)).toNat; omega⟩
  obtain ⟨m1, m2⟩ := k2 R h1 h2
  exact hfin4 R m1 m2
theorem X7 {B : Nat} {p : Option Addr} {n c : Nat} {l : List Int} {w : World} (h : Own w B 40 (Enc.int .u64) p n c l) (hsz : l.length < 2305843009213693952) :
  Aa Tryz.prog 135 [.slice p n c] w (Rets fun v w' => v = .tuple #[] ∧ Own w' B 40 (Enc.int .u64) p n c (B3 l) ∧ Upd (Blk p) w w') := by
 refine sx135.ok ?_
 unfold sx135
 have hn : n = l.length := h.len
 subst hn
 rintro n1 rfl
 have e0 : IntKind.u64.wrap (l.length : Int) = l.length := by rw [IntKind.wrap_u64]; omega
 rw [e0]
 refine (Aa6 (by omega) (by omega)).use fun v w2 ⟨m, hv, hm, hp, hw⟩ => ?_
 subst hv; subst hw
 have h' : Sr_U B p l.length c w2 l.toArray := by simpa using h
 refine ⟨_, rfl, (Aa9 l.length (a := 0) (b := l.length) (d := l.toArray) (lim := m) h' (by omega) (Nat.zero_le _) (by simp) (by simpa using hsz) (.inl rfl)).use fun v w6 ⟨hv, d', h6, hp6, hs6, hu6⟩ => ⟨hv, ?_⟩⟩
 refine ⟨_, rfl, rfl, ?_, hu6⟩
 have e : d'.toList = B3 l := R2 (by simpa using hp6) (by simpa using hs6)
 rw [← e]; exact h6
end Go.Proofs.YtcpkneemhfnanaaGreat
