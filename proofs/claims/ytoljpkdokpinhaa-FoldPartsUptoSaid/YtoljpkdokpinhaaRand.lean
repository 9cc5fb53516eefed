/- What the sort's small helpers hand back: the next power of two, the next random number. Conditions: none. -/
import Derived.Test.YtoljpkdokpinhaaProg
import Derived.Test.YtoljpkdokpinhaaBits
namespace Go.Proofs.Ytoljpkdokpinhaa
open Go.Sx
set_option maxRecDepth 100000
set_option linter.unusedVariables false
set_option linter.unusedSimpArgs false
/- slices.nextPowerOfTwo -/
def sx95 (length : Int) (R : Ending → World → Prop) (w : World) : Prop :=
  CallsW Try.prog 69 [.int .u64 (IntKind.u64.wrap length)] w (RetR R fun u2 w1 => ∃ (n3 : Int), u2 = .int .i64 n3 ∧ 0 ≤ n3 ∧ ∀ n5 : Int, n5 = IntKind.u64.wrap ((1 : Int) * 2 ^ (min n3.toNat (IntKind.bits .u64))) → R
    (.returned (.int .u64 n5)) w1)
theorem sx95.ok {length : Int} {R : Ending → World → Prop} {w : World} (h : sx95 length R w) : CallsW Try.prog 95 [.int .i64 length] w R :=
  callsW_of mix Try.func95 (by kernel_rfl) (by kernel_rfl) (Eq.mpr (by kernel_rfl : denFn Try.prog { named := [6] } Try.f95 [.int .i64 length] R w = sx95 length R w) h)

/- (*slices.xorshift).Next -/
def sx96 (r : Nat) (R : Ending → World → Prop) (w : World) : Prop :=
  ∀ w1, Grew w w1 → ∃ (n2 : Int), w1.cell? ⟨r, 0, none⟩ = some (.int .u64 n2) ∧ ∃ (n3 : Int), w1.cell? ⟨r, 0, none⟩ = some (.int .u64 n3) ∧ 0 ≤ (13 : Int) ∧ ∀ n4 : Int, n4 = IntKind.u64.wrap (n3 * 2 ^ (min (13 : Int).toNat
    (IntKind.bits .u64))) → RoomAt w1 ⟨r, 0, none⟩ 0 [.int .u64 (Go.bits .xor .u64 n2 n4)] ∧ ∀ w5, w5 = setCells w1 ⟨r, 0, none⟩ 0 [.int .u64 (Go.bits .xor .u64 n2 n4)] → ∀ w6, Grew w5 w6 → ∃ (n7 : Int), w6.cell? ⟨r, 0,
    none⟩ = some (.int .u64 n7) ∧ ∃ (n8 : Int), w6.cell? ⟨r, 0, none⟩ = some (.int .u64 n8) ∧ 0 ≤ (7 : Int) ∧ ∀ n9 : Int, n9 = Int.fdiv n8 (2 ^ (min (7 : Int).toNat (IntKind.bits .u64))) → RoomAt w6 ⟨r, 0, none⟩ 0 [.int
    .u64 (Go.bits .xor .u64 n7 n9)] ∧ ∀ w10, w10 = setCells w6 ⟨r, 0, none⟩ 0 [.int .u64 (Go.bits .xor .u64 n7 n9)] → ∀ w11, Grew w10 w11 → ∃ (n12 : Int), w11.cell? ⟨r, 0, none⟩ = some (.int .u64 n12) ∧ ∃ (n13 : Int),
    w11.cell? ⟨r, 0, none⟩ = some (.int .u64 n13) ∧ 0 ≤ (17 : Int) ∧ ∀ n14 : Int, n14 = IntKind.u64.wrap (n13 * 2 ^ (min (17 : Int).toNat (IntKind.bits .u64))) → RoomAt w11 ⟨r, 0, none⟩ 0 [.int .u64 (Go.bits .xor .u64 n12
    n14)] ∧ ∀ w15, w15 = setCells w11 ⟨r, 0, none⟩ 0 [.int .u64 (Go.bits .xor .u64 n12 n14)] → ∃ (n16 : Int), w15.cell? ⟨r, 0, none⟩ = some (.int .u64 n16) ∧ R (.returned (.int .u64 n16)) w15
theorem sx96.ok {r : Nat} {R : Ending → World → Prop} {w : World} (h : sx96 r R w) : CallsW Try.prog 96 [.pointer (some ⟨r, 0, none⟩)] w R :=
  callsW_of mix Try.func96 (by kernel_rfl) (by kernel_rfl) (Eq.mpr (by kernel_rfl : denFn Try.prog { named := [9, 18, 27], draws := [(1, { order := (.cons 0 (.cons 1 (.cons 2 (.cons 3 (.cons 4 (.cons 5 (.cons 6 (.cons 7 (.cons 8 (.cons 9 .nil)))))))))), bars := [9] }), (2, { order := (.cons 0 (.cons 1 (.cons 2 (.cons 3 (.cons 4 (.cons 5 (.cons 6 (.cons 7 (.cons 8 (.cons 9 .nil)))))))))), bars := [9] }), (3, { order := (.cons 0 (.cons 1 (.cons 2 (.cons 3 (.cons 4 (.cons 5 (.cons 6 (.cons 7 (.cons 8 (.cons 9 .nil)))))))))), bars := [9] })] } Try.f96 [.pointer (some ⟨r, 0, none⟩)] R w = sx96 r R w) h)


theorem nextPow_ok {l : Nat} {w : World} (h0 : 0 < l) (h1 : l < 2305843009213693952) : CallsW Try.prog 95 [.int .i64 l] w (Rets fun v w' => ∃ q : Int, v = .int .u64 q ∧ 1 ≤ q ∧ q ≤ 2 * l ∧ w' = w) := by
  refine sx95.ok ?_
  unfold sx95
  have e1 : IntKind.u64.wrap (l : Int) = l := by rw [IntKind.wrap_u64]; omega
  rw [e1]
  refine (Len_ok (by omega) (by omega)).use fun v w1 ⟨m, hv, hm, hp, hw⟩ => ?_
  subst hv; subst hw
  refine ⟨_, rfl, by omega, ?_⟩
  rintro n5 rfl
  have hp' := hp (by omega)
  have h2 : (0 : Int) < 2 ^ m := Int.pow_pos (by decide)
  have e2 : min ((m : Int)).toNat (IntKind.bits .u64) = m := by simp [IntKind.bits]; omega
  rw [e2, Int.one_mul]
  have e3 : IntKind.u64.wrap ((2 : Int) ^ m) = 2 ^ m := by rw [IntKind.wrap_u64]; omega
  rw [e3]
  exact ⟨_, rfl, _, rfl, by omega, hp', rfl⟩

theorem xnext_ok {r : Nat} {e : TypeId} {x : Int} {w : World} (h : Row w r e [.int .u64 x]) : CallsW Try.prog 96 [.pointer (some ⟨r, 0, none⟩)] w (Rets fun v w' => ∃ y : Int, v = .int .u64 y ∧ 0 ≤ y ∧ y < 18446744073709551616 ∧ Row w' r e [.int .u64 y] ∧ Upd (fun b => b = r) w w') := by
  refine sx96.ok ?_
  unfold sx96
  intro w1 hg1
  have h1 := h.grew hg1
  refine ⟨x, by rw [h1.cell]; rfl, x, by rw [h1.cell]; rfl, by decide, ?_⟩
  rintro n4 rfl
  obtain ⟨hr, hrow, hu⟩ := h1.set1 (o := 0) (by simp) (.int .u64 (Go.bits .xor .u64 x (IntKind.u64.wrap (x * 2 ^ (min (13 : Int).toNat (IntKind.bits .u64))))))
  refine ⟨hr, ?_⟩
  rintro w5 rfl
  generalize Go.bits .xor .u64 x (IntKind.u64.wrap (x * 2 ^ (min (13 : Int).toNat (IntKind.bits .u64)))) = x2 at hrow hu ⊢
  generalize setCells w1 ⟨r, 0, none⟩ 0 [.int .u64 x2] = w5 at hrow hu ⊢
  intro w6 hg6
  have h6 : Row w6 r e [.int .u64 x2] := Row.grew hrow hg6
  refine ⟨x2, by rw [h6.cell]; rfl, x2, by rw [h6.cell]; rfl, by decide, ?_⟩
  rintro n9 rfl
  obtain ⟨hr, hrow6, hu6⟩ := h6.set1 (o := 0) (by simp) (.int .u64 (Go.bits .xor .u64 x2 (Int.fdiv x2 (2 ^ (min (7 : Int).toNat (IntKind.bits .u64))))))
  refine ⟨hr, ?_⟩
  rintro w10 rfl
  generalize Go.bits .xor .u64 x2 (Int.fdiv x2 (2 ^ (min (7 : Int).toNat (IntKind.bits .u64)))) = x3 at hrow6 hu6 ⊢
  generalize setCells w6 ⟨r, 0, none⟩ 0 [.int .u64 x3] = w10 at hrow6 hu6 ⊢
  intro w11 hg11
  have h11 : Row w11 r e [.int .u64 x3] := Row.grew hrow6 hg11
  refine ⟨x3, by rw [h11.cell]; rfl, x3, by rw [h11.cell]; rfl, by decide, ?_⟩
  rintro n14 rfl
  obtain ⟨hr, hrow11, hu11⟩ := h11.set1 (o := 0) (by simp) (.int .u64 (Go.bits .xor .u64 x3 (IntKind.u64.wrap (x3 * 2 ^ (min (17 : Int).toNat (IntKind.bits .u64))))))
  refine ⟨hr, ?_⟩
  rintro w15 rfl
  have hx := xor_range x3 (IntKind.u64.wrap (x3 * 2 ^ (min (17 : Int).toNat (IntKind.bits .u64))))
  generalize Go.bits .xor .u64 x3 (IntKind.u64.wrap (x3 * 2 ^ (min (17 : Int).toNat (IntKind.bits .u64)))) = x4 at hrow11 hu11 hx ⊢
  generalize setCells w11 ⟨r, 0, none⟩ 0 [.int .u64 x4] = w15 at hrow11 hu11 ⊢
  have h15 : Row w15 r e [.int .u64 x4] := hrow11
  exact ⟨x4, by rw [h15.cell]; rfl, _, rfl, x4, rfl, hx.1, hx.2, h15, ((((hg1.upd.trans hu).then_grew hg6).trans hu6).then_grew hg11).trans hu11⟩
end Go.Proofs.Ytoljpkdokpinhaa
