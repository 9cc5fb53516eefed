/- What the reader's functions hand back. Conditions: none. -/
import Derived.Test.YtnbknhcpjggabaaProg
import Derived.Test.YtnbknhcpjggabaaBucket2
namespace Go.Proofs.Ytnbknhcpjggabaa
open Go.Sx
set_option maxRecDepth 100000
set_option linter.unusedVariables false
set_option linter.unusedSimpArgs false
/- (*reprise/bucket.reader).fail -/
def sx30 (r : Nat) (e : Int) (R : Ending → World → Prop) (w : World) : Prop :=
  ∃ (n1 : Int), w.cell? ⟨r, 1, none⟩ = some (.int .i64 n1) ∧ (((n1 == 0) = true → RoomAt w ⟨r, 1, none⟩ 0 [.int .i64 e] ∧ ∀ w2, w2 = setCells w ⟨r, 1, none⟩ 0 [.int .i64 e] → R (.returned (.tuple #[])) w2) ∧ ((n1 == 0) =
    false → R (.returned (.tuple #[])) w))
theorem sx30.ok {r : Nat} {e : Int} {R : Ending → World → Prop} {w : World} (h : sx30 r e R w) : CallsW Try.prog 30 [.pointer (some ⟨r, 0, none⟩), .int .i64 e] w R :=
  callsW_of mix Try.func30 (by kernel_rfl) (by kernel_rfl) (Eq.mpr (by kernel_rfl : denFn Try.prog {} Try.f30 [.pointer (some ⟨r, 0, none⟩), .int .i64 e] R w = sx30 r e R w) h)

/- (*reprise/bucket.reader).number -/
def sx29 (r : Nat) (R : Ending → World → Prop) (w : World) : Prop :=
  ∃ (n1 : Int), w.cell? ⟨r, 1, none⟩ = some (.int .i64 n1) ∧ (((n1 != 0) = true → R (.returned (.int .u64 0)) w) ∧ ((n1 != 0) = false → ∃ (a2 : Option Addr) (l2 c2 : Nat), w.cell? ⟨r, 0, none⟩ = some (.slice a2 l2 c2) ∧
    CallsW Try.prog 45 [.slice a2 l2 c2] w (RetR R fun u4 w3 => ∃ (n5 : Int) (n6 : Int) (n7 : Int), u4 = .tuple #[.int .u64 n5, .int .i64 n6, .int .i64 n7] ∧ CallsW Try.prog 30 [.pointer (some ⟨r, 0, none⟩), .int .i64 n7]
    w3 (RetR R fun u10 w9 => u10 = .tuple #[] ∧ ∃ (a12 : Option Addr) (l12 c12 : Nat), w9.cell? ⟨r, 0, none⟩ = some (.slice a12 l12 c12) ∧ (0 ≤ n6 ∧ n6 ≤ (l12 : Nat)) ∧ RoomAt w9 ⟨r, 0, none⟩ 0 [.slice (if c12 = n6.toNat
    then a12 else Option.map (fun x => Addr.add x (n6.toNat * 1)) a12) (l12 - n6.toNat) (c12 - n6.toNat)] ∧ ∀ w13, w13 = setCells w9 ⟨r, 0, none⟩ 0 [.slice (if c12 = n6.toNat then a12 else Option.map (fun x => Addr.add x
    (n6.toNat * 1)) a12) (l12 - n6.toNat) (c12 - n6.toNat)] → R (.returned (.int .u64 n5)) w13))))
theorem sx29.ok {r : Nat} {R : Ending → World → Prop} {w : World} (h : sx29 r R w) : CallsW Try.prog 29 [.pointer (some ⟨r, 0, none⟩)] w R :=
  callsW_of mix Try.func29 (by kernel_rfl) (by kernel_rfl) (Eq.mpr (by kernel_rfl : denFn Try.prog {} Try.f29 [.pointer (some ⟨r, 0, none⟩)] R w = sx29 r R w) h)

/- (*reprise/bucket.reader).flags -/
def sx46 (r : Nat) (R : Ending → World → Prop) (w : World) : Prop :=
  ∃ (n1 : Int), w.cell? ⟨r, 1, none⟩ = some (.int .i64 n1) ∧ (((n1 != 0) = true → R (.returned (.int .u8 0)) w) ∧ ((n1 != 0) = false → ∃ (a2 : Option Addr) (l2 c2 : Nat), w.cell? ⟨r, 0, none⟩ = some (.slice a2 l2 c2) ∧
    (((((l2 : Nat) : Int) == 0) = true → CallsW Try.prog 30 [.pointer (some ⟨r, 0, none⟩), .int .i64 3] w (RetR R fun u4 w3 => u4 = .tuple #[] ∧ R (.returned (.int .u8 0)) w3)) ∧ ((((l2 : Nat) : Int) == 0) = false → ∃ (a6
    : Option Addr) (l6 c6 : Nat), w.cell? ⟨r, 0, none⟩ = some (.slice a6 l6 c6) ∧ withSome a6 (fun d7 => (0 ≤ (0 : Int) ∧ (0 : Int) < (l6 : Nat)) ∧ ∃ (n8 : Int), w.cell? d7 = some (.int .u8 n8) ∧ (((decide (n8 > 3)) =
    true → CallsW Try.prog 30 [.pointer (some ⟨r, 0, none⟩), .int .i64 4] w (RetR R fun u10 w9 => u10 = .tuple #[] ∧ R (.returned (.int .u8 0)) w9)) ∧ ((decide (n8 > 3)) = false → ∃ (a12 : Option Addr) (l12 c12 : Nat),
    w.cell? ⟨r, 0, none⟩ = some (.slice a12 l12 c12) ∧ withSome a12 (fun d13 => (0 ≤ (0 : Int) ∧ (0 : Int) < (l12 : Nat)) ∧ ∃ (n14 : Int), w.cell? d13 = some (.int .u8 n14) ∧ ∃ (a15 : Option Addr) (l15 c15 : Nat), w.cell?
    ⟨r, 0, none⟩ = some (.slice a15 l15 c15) ∧ (0 ≤ (1 : Int) ∧ (1 : Int) ≤ (l15 : Nat)) ∧ RoomAt w ⟨r, 0, none⟩ 0 [.slice (if c15 = (1 : Int).toNat then a15 else Option.map (fun x => Addr.add x ((1 : Int).toNat * 1))
    a15) (l15 - (1 : Int).toNat) (c15 - (1 : Int).toNat)] ∧ ∀ w16, w16 = setCells w ⟨r, 0, none⟩ 0 [.slice (if c15 = (1 : Int).toNat then a15 else Option.map (fun x => Addr.add x ((1 : Int).toNat * 1)) a15) (l15 - (1 :
    Int).toNat) (c15 - (1 : Int).toNat)] → R (.returned (.int .u8 n14)) w16))))))))
theorem sx46.ok {r : Nat} {R : Ending → World → Prop} {w : World} (h : sx46 r R w) : CallsW Try.prog 46 [.pointer (some ⟨r, 0, none⟩)] w R :=
  callsW_of mix Try.func46 (by kernel_rfl) (by kernel_rfl) (Eq.mpr (by kernel_rfl : denFn Try.prog {} Try.f46 [.pointer (some ⟨r, 0, none⟩)] R w = sx46 r R w) h)

/- (*reprise/bucket.reader).value -/
def sx47 (r : Nat) (has : Bool) (R : Ending → World → Prop) (w : World) : Prop :=
  ∀ w1, Grew w w1 → (((!has) = true → R (.returned (.agg #[.bool false, .int .u64 0])) w1) ∧ ((!has) = false → ∃ (n2 : Int), w1.cell? ⟨r, 1, none⟩ = some (.int .i64 n2) ∧ (((n2 != 0) = true → R (.returned (.agg #[.bool
    false, .int .u64 0])) w1) ∧ ((n2 != 0) = false → ∃ (a3 : Option Addr) (l3 c3 : Nat), w1.cell? ⟨r, 0, none⟩ = some (.slice a3 l3 c3) ∧ CallsW Try.prog 55 [.slice a3 l3 c3] w1 (RetR R fun u5 w4 => ∃ (n6 : Int) (n7 :
    Int), u5 = .tuple #[.int .u64 n6, .int .i64 n7] ∧ (((n7 != 0) = true → CallsW Try.prog 30 [.pointer (some ⟨r, 0, none⟩), .int .i64 n7] w4 (RetR R fun u10 w9 => u10 = .tuple #[] ∧ R (.returned (.agg #[.bool false, .int
    .u64 0])) w9)) ∧ ((n7 != 0) = false → ∃ (a12 : Option Addr) (l12 c12 : Nat), w4.cell? ⟨r, 0, none⟩ = some (.slice a12 l12 c12) ∧ (0 ≤ (8 : Int) ∧ (8 : Int) ≤ (l12 : Nat)) ∧ RoomAt w4 ⟨r, 0, none⟩ 0 [.slice (if c12 =
    (8 : Int).toNat then a12 else Option.map (fun x => Addr.add x ((8 : Int).toNat * 1)) a12) (l12 - (8 : Int).toNat) (c12 - (8 : Int).toNat)] ∧ ∀ w13, w13 = setCells w4 ⟨r, 0, none⟩ 0 [.slice (if c12 = (8 : Int).toNat
    then a12 else Option.map (fun x => Addr.add x ((8 : Int).toNat * 1)) a12) (l12 - (8 : Int).toNat) (c12 - (8 : Int).toNat)] → R (.returned (.agg #[.bool true, .int .u64 n6])) w13)))))))
theorem sx47.ok {r : Nat} {has : Bool} {R : Ending → World → Prop} {w : World} (h : sx47 r has R w) : CallsW Try.prog 47 [.pointer (some ⟨r, 0, none⟩), .bool has] w R :=
  callsW_of mix Try.func47 (by kernel_rfl) (by kernel_rfl) (Eq.mpr (by kernel_rfl : denFn Try.prog { locals := [4] } Try.f47 [.pointer (some ⟨r, 0, none⟩), .bool has] R w = sx47 r has R w) h)

/- (*reprise/bucket.reader).cell -/
def sx31 (r : Nat) (ahead : Option Addr) (ahead_n ahead_c : Nat) (R : Ending → World → Prop) (w : World) : Prop :=
  ∀ w1, Grew w w1 → CallsW Try.prog 29 [.pointer (some ⟨r, 0, none⟩)] w1 (RetR R fun u3 w2 => ∃ (n4 : Int), u3 = .int .u64 n4 ∧ ∀ w6, Grew w2 w6 → ∃ (J7 : World → Prop), ((((decide (((ahead_n : Nat) : Int) > 0)) = true → ∀
    n8 : Int, n8 = IntKind.i64.wrap (((ahead_n : Nat) : Int) - 1) → withSome ahead (fun d9 => (0 ≤ n8 ∧ n8 < (ahead_n : Nat)) ∧ ∃ (n10 : Int), w6.cell? (Addr.add d9 (n8.toNat * 6)) = some (.int .u64 n10) ∧ ∀ w11, Grew w6
    w11 → (((decide (n4 ≤ n10)) = true → CallsW Try.prog 30 [.pointer (some ⟨r, 0, none⟩), .int .i64 7] w11 (RetR R fun u13 w12 => u13 = .tuple #[] ∧ J7 w12)) ∧ ((decide (n4 ≤ n10)) = false → J7 w11)))) ∧ ((decide
    (((ahead_n : Nat) : Int) > 0)) = false → ∀ w15, Grew w6 w15 → J7 w15))) ∧ ∀  (w16 : World), J7 w16 → CallsW Try.prog 46 [.pointer (some ⟨r, 0, none⟩)] w16 (RetR R fun u18 w17 => ∃ (n19 : Int), u18 = .int .u8 n19 ∧
    CallsW Try.prog 47 [.pointer (some ⟨r, 0, none⟩), .bool ((Go.bits .and .u8 n19 1) != 0)] w17 (RetR R fun u22 w21 => ∃ (b23 : Bool) (n24 : Int), u22 = .agg #[.bool b23, .int .u64 n24] ∧ CallsW Try.prog 47 [.pointer
    (some ⟨r, 0, none⟩), .bool ((Go.bits .and .u8 n19 2) != 0)] w21 (RetR R fun u27 w26 => ∃ (b28 : Bool) (n29 : Int), u27 = .agg #[.bool b28, .int .u64 n29] ∧ CallsW Try.prog 29 [.pointer (some ⟨r, 0, none⟩)] w26 (RetR R
    fun u32 w31 => ∃ (n33 : Int), u32 = .int .u64 n33 ∧ (((decide (n33 > 1099511627776)) = true → CallsW Try.prog 30 [.pointer (some ⟨r, 0, none⟩), .int .i64 4] w31 (RetR R fun u36 w35 => u36 = .tuple #[] ∧ R (.returned
    (.agg #[.int .u64 n4, .bool b23, .int .u64 n24, .bool b28, .int .u64 n29, .int .i64 (IntKind.i64.wrap n33)])) w35)) ∧ ((decide (n33 > 1099511627776)) = false → R (.returned (.agg #[.int .u64 n4, .bool b23, .int .u64
    n24, .bool b28, .int .u64 n29, .int .i64 (IntKind.i64.wrap n33)])) w31)))))))
theorem sx31.ok {r : Nat} {ahead : Option Addr} {ahead_n ahead_c : Nat} {R : Ending → World → Prop} {w : World} (h : sx31 r ahead ahead_n ahead_c R w) : CallsW Try.prog 31 [.pointer (some ⟨r, 0, none⟩), .slice ahead ahead_n ahead_c] w R :=
  callsW_of mix Try.func31 (by kernel_rfl) (by kernel_rfl) (Eq.mpr (by kernel_rfl : denFn Try.prog { locals := [4, 5], named := [21], cuts := [(5, { slots := [], cells := [] })] } Try.f31 [.pointer (some ⟨r, 0, none⟩), .slice ahead ahead_n ahead_c] R w = sx31 r ahead ahead_n ahead_c R w) h)


/-- the reader at block r: what is left, and its error -/
def Rd (w : World) (B r : Nat) (s : RdS) : Prop := ∃ a n c, Row w r 55 [.slice a n c, .int .i64 s.2] ∧ Reads w (Enc.int .u8) (a, n, c) s.1 ∧ (∀ x, Blk a x → x < B) ∧ B ≤ r
theorem Rd.grew {w w' : World} {B r : Nat} {s : RdS} (h : Rd w B r s) (hg : Grew w w') : Rd w' B r s := let ⟨a, n, c, h1, h2, h3⟩ := h; ⟨a, n, c, h1.grew hg, h2.grew hg, h3⟩
theorem Rd.e {w : World} {B r : Nat} {s : RdS} (h : Rd w B r s) : w.cell? ⟨r, 1, none⟩ = some (.int .i64 s.2) := by obtain ⟨a, n, c, h1, h2, h3⟩ := h; rw [h1.cell]; rfl
theorem Rd.rest {w : World} {B r : Nat} {s : RdS} (h : Rd w B r s) : ∃ a n c, w.cell? ⟨r, 0, none⟩ = some (.slice a n c) ∧ Reads w (Enc.int .u8) (a, n, c) s.1 ∧ (∀ x, Blk a x → x < B) ∧ B ≤ r := by obtain ⟨a, n, c, h1, h2, h3⟩ := h; exact ⟨a, n, c, by rw [h1.cell]; rfl, h2, h3⟩
theorem Rd.setE {w : World} {B r : Nat} {s : RdS} (h : Rd w B r s) (e : Int) : RoomAt w ⟨r, 1, none⟩ 0 [.int .i64 e] ∧ Rd (setCells w ⟨r, 1, none⟩ 0 [.int .i64 e]) B r (s.1, e) ∧ Upd (fun b => b = r) w (setCells w ⟨r, 1, none⟩ 0 [.int .i64 e]) := by
  obtain ⟨a, n, c, h1, h2, h3⟩ := h
  obtain ⟨k1, k2, k3⟩ := h1.set1 (o := 1) (by simp) (.int .i64 e)
  exact ⟨k1, ⟨a, n, c, by simpa using k2, h2.upd k3 fun b hb e => by have h4 := h3.1 b hb; have h5 := h3.2; subst e; omega, h3⟩, k3⟩
theorem Rd.setRest {w : World} {B r : Nat} {s : RdS} (h : Rd w B r s) {a : Option Addr} {n c : Nat} {l : List Int} (hr : Reads w (Enc.int .u8) (a, n, c) l) (hb : ∀ x, Blk a x → x < B) : RoomAt w ⟨r, 0, none⟩ 0 [.slice a n c] ∧ Rd (setCells w ⟨r, 0, none⟩ 0 [.slice a n c]) B r (l, s.2) ∧ Upd (fun b => b = r) w (setCells w ⟨r, 0, none⟩ 0 [.slice a n c]) := by
  obtain ⟨a', n', c', h1, h2, h3⟩ := h
  obtain ⟨k1, k2, k3⟩ := h1.set1 (o := 0) (by simp) (.slice a n c)
  exact ⟨k1, ⟨a, n, c, by simpa using k2, hr.upd k3 fun b hb' e => by have h4 := hb b hb'; have h5 := h3.2; subst e; omega, hb, h3.2⟩, k3⟩

/-- a step of the reader -/
def Steps (w : World) (B r : Nat) (s : RdS) (w' : World) : Prop := Rd w' B r s ∧ Upd (fun b => b = r) w w'

theorem fail_ok {w : World} {B r : Nat} {s : RdS} {e : Int} (h : Rd w B r s) : CallsW Try.prog 30 [.pointer (some ⟨r, 0, none⟩), .int .i64 e] w (Rets fun v w' => v = .tuple #[] ∧ Steps w B r (failS e s) w') := by
  refine sx30.ok ?_
  unfold sx30
  refine ⟨s.2, h.e, fun h0 => ?_, fun h0 => ?_⟩
  · simp only [beq_iff_eq] at h0
    obtain ⟨k1, k2, k3⟩ := h.setE e
    refine ⟨k1, ?_⟩
    rintro w2 rfl
    exact ⟨_, rfl, rfl, by rw [failS, if_pos h0]; exact k2, k3⟩
  · simp only [beq_eq_false_iff_ne, ne_eq] at h0
    exact ⟨_, rfl, rfl, by rw [failS, if_neg h0]; exact h, Upd.refl _ _⟩

theorem number_ok {w : World} {B r : Nat} {s : RdS} (h : Rd w B r s) (hb : Bytes s.1) (hl : s.1.length ≤ 9223372036854775807) : CallsW Try.prog 29 [.pointer (some ⟨r, 0, none⟩)] w (Rets fun v w' => v = .int .u64 (numS s).1 ∧ Steps w B r (numS s).2 w') := by
  refine sx29.ok ?_
  unfold sx29
  refine ⟨s.2, h.e, fun h0 => ?_, fun h0 => ?_⟩
  · have h0' : s.2 ≠ 0 := by simpa using h0
    exact ⟨_, rfl, by rw [numS, if_pos h0'], by rw [numS, if_pos h0']; exact h, Upd.refl _ _⟩
  · have h0' : ¬ s.2 ≠ 0 := by simpa using h0
    obtain ⟨a, n, c, hc, hr, hbl⟩ := h.rest
    refine ⟨a, n, c, hc, ?_⟩
    refine (Take_ok hr.1 hb hr.2.1 hl).use fun v w3 ⟨hv, hw⟩ => ?_
    subst hv; subst hw
    refine ⟨_, _, _, rfl, ?_⟩
    refine (fail_ok h).use fun v w9 ⟨hv, h9, hu9⟩ => ?_
    subst hv
    obtain ⟨a', n', c', hc', hr', hbl'⟩ := h9.rest
    have hf : failS (takeB s.1).2.2 s = (s.1, (takeB s.1).2.2) := by rw [failS, if_pos (by simpa using h0')]
    rw [hf] at h9 hr'
    have hu := takeB_used s.1
    have hn' : n' = s.1.length := hr'.2.1
    have hr2 := hr'.from (i := (takeB s.1).2.1.toNat) (by omega)
    obtain ⟨k1, k2, k3⟩ := h9.setRest hr2 fun x hx => hbl'.1 x (blk_cut hx)
    refine ⟨rfl, a', n', c', hc', ⟨hu.1, by omega⟩, k1, ?_⟩
    rintro w13 rfl
    exact ⟨_, rfl, by rw [numS, if_neg h0'], by rw [numS, if_neg h0']; exact k2, hu9.trans k3⟩

theorem flags_ok {w : World} {B r : Nat} {s : RdS} (h : Rd w B r s) : CallsW Try.prog 46 [.pointer (some ⟨r, 0, none⟩)] w (Rets fun v w' => v = .int .u8 (flagsS s).1 ∧ Steps w B r (flagsS s).2 w') := by
  refine sx46.ok ?_
  unfold sx46
  refine ⟨s.2, h.e, fun h0 => ?_, fun h0 => ?_⟩
  · have h0' : s.2 ≠ 0 := by simpa using h0
    exact ⟨_, rfl, by rw [flagsS, if_pos h0'], by rw [flagsS, if_pos h0']; exact h, Upd.refl _ _⟩
  have h0' : ¬ s.2 ≠ 0 := by simpa using h0
  obtain ⟨a, n, c, hc, hr, hbl⟩ := h.rest
  have hn : n = s.1.length := hr.2.1
  refine ⟨a, n, c, hc, fun hz => ?_, fun hz => ?_⟩
  · have hnil : s.1 = [] := List.eq_nil_of_length_eq_zero (by simp at hz; omega)
    refine (fail_ok h).use fun v w9 ⟨hv, h9, hu9⟩ => ?_
    subst hv
    have hf : flagsS s = (0, failS 3 s) := by
      rw [flagsS, if_neg h0', hnil, failS, if_pos (by simpa using h0'), hnil]
    exact ⟨rfl, _, rfl, by rw [hf], by rw [hf]; exact h9, hu9⟩
  · have hpos : 0 < n := by simp at hz; omega
    obtain ⟨d, x, rfl, hx, hcx⟩ := hr.at0 hpos
    obtain ⟨t, ht⟩ : ∃ t, s.1 = x :: t := by
      cases hs : s.1 with
      | nil => rw [hs] at hx; cases hx
      | cons y t => rw [hs] at hx; simp at hx; exact ⟨t, by rw [hx]⟩
    have hcell : w.cell? d = some (.int .u8 x) := by simpa [Enc.int, CellsAt, Addr.add_zero'] using hcx.1
    refine ⟨some d, n, c, hc, by omega, x, hcell, fun h3 => ?_, fun h3 => ?_⟩
    · simp only [decide_eq_true_eq] at h3
      refine (fail_ok h).use fun v w9 ⟨hv, h9, hu9⟩ => ?_
      subst hv
      have hf : flagsS s = (0, failS 4 s) := by
        rw [flagsS, if_neg h0', ht]; simp only [if_pos (show 3 < x by omega)]; rw [failS, if_pos (by simpa using h0'), ht]
      exact ⟨rfl, _, rfl, by rw [hf], by rw [hf]; exact h9, hu9⟩
    · simp only [decide_eq_false_iff_not] at h3
      have hr2 := hr.from (i := 1) hpos
      obtain ⟨k1, k2, k3⟩ := h.setRest hr2 fun x hx => hbl.1 x (blk_cut hx)
      refine ⟨some d, n, c, hc, by omega, x, hcell, some d, n, c, hc, by omega, k1, ?_⟩
      rintro w16 rfl
      have hf : flagsS s = (x, (s.1.drop 1, s.2)) := by
        have : s.2 = 0 := by simpa using h0'
        rw [flagsS, if_neg h0', ht]; simp only [if_neg (show ¬ 3 < x by omega)]; rw [this]; rfl
      exact ⟨_, rfl, by rw [hf], by rw [hf]; exact k2, k3⟩

theorem value_ok {w : World} {B r : Nat} {s : RdS} {has : Bool} (h : Rd w B r s) (hb : Bytes s.1) : CallsW Try.prog 47 [.pointer (some ⟨r, 0, none⟩), .bool has] w (Rets fun v w' => v = .agg #[.bool (valueS has s).1.1, .int .u64 (valueS has s).1.2] ∧ Steps w B r (valueS has s).2 w') := by
  refine sx47.ok ?_
  unfold sx47
  intro w1 hg1
  have h1 := h.grew hg1
  refine ⟨fun hh => ?_, fun hh => ?_⟩
  · have hf : valueS has s = ((false, 0), s) := by rw [valueS, if_pos (.inl (by simpa using hh))]
    rw [hf]
    exact ⟨_, rfl, rfl, h1, hg1.upd⟩
  refine ⟨s.2, h1.e, fun h0 => ?_, fun h0 => ?_⟩
  · have hf : valueS has s = ((false, 0), s) := by rw [valueS, if_pos (.inr (by simpa using h0))]
    rw [hf]
    exact ⟨_, rfl, rfl, h1, hg1.upd⟩
  have hno : ¬ (has = false ∨ s.2 ≠ 0) := by
    have e1 : has = true := by simpa using hh
    have e2 : s.2 = 0 := by simpa using h0
    simp [e1, e2]
  have hs0 : s.2 = 0 := by simpa using h0
  obtain ⟨a, n, c, hc, hr, hbl⟩ := h1.rest
  refine ⟨a, n, c, hc, ?_⟩
  refine (TakeWord_ok hr.1 hb hr.2.1 hr.2.2.2).use fun v w4 ⟨hv, hw⟩ => ?_
  subst hv; subst hw
  refine ⟨_, _, rfl, fun he => ?_, fun he => ?_⟩
  · have he' : (takeWordB s.1).2 ≠ 0 := by simpa using he
    refine (fail_ok h1).use fun v w9 ⟨hv, h9, hu9⟩ => ?_
    subst hv
    have hf : valueS has s = ((false, 0), failS (takeWordB s.1).2 s) := by rw [valueS, if_neg hno, if_pos he', failS, if_pos hs0]
    rw [hf]
    exact ⟨rfl, _, rfl, rfl, h9, hg1.then_upd hu9⟩
  · have he' : ¬ (takeWordB s.1).2 ≠ 0 := by simpa using he
    have h8 : 8 ≤ n := by
      have hn : n = s.1.length := hr.2.1
      rcases Nat.lt_or_ge n 8 with hlt | hge
      · exfalso; apply he'; rw [takeWordB, if_pos (by omega)]; decide
      · exact hge
    have hr2 := hr.from (i := 8) h8
    obtain ⟨k1, k2, k3⟩ := h1.setRest hr2 fun x hx => hbl.1 x (blk_cut hx)
    refine ⟨a, n, c, hc, ⟨by omega, by omega⟩, k1, ?_⟩
    rintro w16 rfl
    have hf : valueS has s = ((true, (takeWordB s.1).1), (s.1.drop 8, s.2)) := by rw [valueS, if_neg hno, if_neg he', hs0]
    rw [hf]
    exact ⟨_, rfl, rfl, k2, hg1.then_upd k3⟩
end Go.Proofs.Ytnbknhcpjggabaa
