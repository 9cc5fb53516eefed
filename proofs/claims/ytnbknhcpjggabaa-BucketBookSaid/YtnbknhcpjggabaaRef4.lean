/- What the reference's Rising, Find, Put and Drop hand back. Conditions: none. -/
import Derived.Test.YtnbknhcpjggabaaProg
import Derived.Test.YtnbknhcpjggabaaRef3
namespace Go.Proofs.Ytnbknhcpjggabaa
open Go.Sx
set_option maxRecDepth 100000
set_option linter.unusedVariables false
set_option linter.unusedSimpArgs false
/- reprise/repriseref11.Rising -/
def sx37 (cells : Option Addr) (cells_n cells_c : Nat) (R : Ending → World → Prop) (w : World) : Prop :=
  ∃ (I1 : Int → World → Prop) (m1 : Int → World → Nat), I1 1 w ∧ ∀ (n2 : Int) (w3 : World), I1 n2 w3 → (((decide (n2 < ((cells_n : Nat) : Int))) = true → withSome cells (fun d4 => (0 ≤ n2 ∧ n2 < (cells_n : Nat)) ∧ ∃ (n5 :
    Int), w3.cell? (Addr.add d4 (n2.toNat * 6)) = some (.int .u64 n5) ∧ withSome cells (fun d6 => (0 ≤ (IntKind.i64.wrap (n2 - 1)) ∧ (IntKind.i64.wrap (n2 - 1)) < (cells_n : Nat)) ∧ ∃ (n7 : Int), w3.cell? (Addr.add d6
    ((IntKind.i64.wrap (n2 - 1)).toNat * 6)) = some (.int .u64 n7) ∧ ∀ w8, Grew w3 w8 → (((decide (n5 ≤ n7)) = true → R (.returned (.bool false)) w8) ∧ ((decide (n5 ≤ n7)) = false → (I1 (IntKind.i64.wrap (n2 + 1)) w8 ∧ m1
    (IntKind.i64.wrap (n2 + 1)) w8 < m1 n2 w3)))))) ∧ ((decide (n2 < ((cells_n : Nat) : Int))) = false → R (.returned (.bool true)) w3))
theorem sx37.ok {cells : Option Addr} {cells_n cells_c : Nat} {R : Ending → World → Prop} {w : World} (h : sx37 cells cells_n cells_c R w) : CallsW Try.prog 37 [.slice cells cells_n cells_c] w R :=
  callsW_of mix Try.func37 (by kernel_rfl) (by kernel_rfl) (Eq.mpr (by kernel_rfl : denFn Try.prog { loops := [(2, { slots := [(3, .int .i64)], cells := [] })] } Try.f37 [.slice cells cells_n cells_c] R w = sx37 cells cells_n cells_c R w) h)

/- reprise/repriseref11.Find -/
def sx16 (cells : Option Addr) (cells_n cells_c : Nat) (key : Int) (R : Ending → World → Prop) (w : World) : Prop :=
  CallsW Try.prog 37 [.slice cells cells_n cells_c] w (RetR R fun u2 w1 => ∃ (b3 : Bool), u2 = .bool b3 ∧ (((!b3) = true → R (.returned (.tuple #[.int .i64 0, .bool false])) w1) ∧ ((!b3) = false → ∃ (I5 : Int → World →
    Prop) (m5 : Int → World → Nat), I5 0 w1 ∧ ∀ (n6 : Int) (w7 : World), I5 n6 w7 → (((decide (n6 < ((cells_n : Nat) : Int))) = true → withSome cells (fun d8 => (0 ≤ n6 ∧ n6 < (cells_n : Nat)) ∧ ∃ (n9 : Int), w7.cell?
    (Addr.add d8 (n6.toNat * 6)) = some (.int .u64 n9) ∧ (((decide (n9 < key)) = true → (I5 (IntKind.i64.wrap (n6 + 1)) w7 ∧ m5 (IntKind.i64.wrap (n6 + 1)) w7 < m5 n6 w7)) ∧ ((decide (n9 < key)) = false → (((decide (n6 <
    ((cells_n : Nat) : Int))) = true → withSome cells (fun d10 => (0 ≤ n6 ∧ n6 < (cells_n : Nat)) ∧ ∃ (n11 : Int), w7.cell? (Addr.add d10 (n6.toNat * 6)) = some (.int .u64 n11) ∧ ∀ w12, Grew w7 w12 → R (.returned (.tuple
    #[.int .i64 n6, .bool (n11 == key)])) w12)) ∧ ((decide (n6 < ((cells_n : Nat) : Int))) = false → ∀ w13, Grew w7 w13 → R (.returned (.tuple #[.int .i64 n6, .bool false])) w13)))))) ∧ ((decide (n6 < ((cells_n : Nat) :
    Int))) = false → (((decide (n6 < ((cells_n : Nat) : Int))) = true → withSome cells (fun d14 => (0 ≤ n6 ∧ n6 < (cells_n : Nat)) ∧ ∃ (n15 : Int), w7.cell? (Addr.add d14 (n6.toNat * 6)) = some (.int .u64 n15) ∧ ∀ w16,
    Grew w7 w16 → R (.returned (.tuple #[.int .i64 n6, .bool (n15 == key)])) w16)) ∧ ((decide (n6 < ((cells_n : Nat) : Int))) = false → ∀ w17, Grew w7 w17 → R (.returned (.tuple #[.int .i64 n6, .bool false])) w17)))))))
theorem sx16.ok {cells : Option Addr} {cells_n cells_c : Nat} {key : Int} {R : Ending → World → Prop} {w : World} (h : sx16 cells cells_n cells_c key R w) : CallsW Try.prog 16 [.slice cells cells_n cells_c, .int .u64 key] w R :=
  callsW_of mix Try.func16 (by kernel_rfl) (by kernel_rfl) (Eq.mpr (by kernel_rfl : denFn Try.prog { loops := [(4, { slots := [(6, .int .i64)], cells := [] })] } Try.f16 [.slice cells cells_n cells_c, .int .u64 key] R w = sx16 cells cells_n cells_c key R w) h)

/- reprise/repriseref11.Put -/
def sx18 (cells : Option Addr) (cells_n cells_c : Nat) (c_0 : Int) (c_1 : Bool) (c_2 : Int) (c_3 : Bool) (c_4 : Int) (c_5 : Int) (R : Ending → World → Prop) (w : World) : Prop :=
  ∀ w1, Grew w w1 → CallsW Try.prog 37 [.slice cells cells_n cells_c] w1 (RetR R fun u3 w2 => ∃ (b4 : Bool), u3 = .bool b4 ∧ (((!b4) = true → R (.returned (.tuple #[.slice none 0 0, .int .i64 7])) w2) ∧ ((!b4) = false →
    CallsW Try.prog 16 [.slice cells cells_n cells_c, .int .u64 c_0] w2 (RetR R fun u7 w6 => ∃ (n8 : Int) (b9 : Bool), u7 = .tuple #[.int .i64 n8, .bool b9] ∧ (((!b9) = true → (((decide (((cells_n : Nat) : Int) ≥ 16)) =
    true → R (.returned (.tuple #[.slice none 0 0, .int .i64 92])) w6) ∧ ((decide (((cells_n : Nat) : Int) ≥ 16)) = false → ∀ (b11 : Nat) (w12 : World), Alloc w6 w12 b11 (.cells #[] 37) → (0 ≤ n8 ∧ n8 ≤ (cells_c : Nat)) ∧
    SemW Try.prog (Builtin.append_ #[22, 22] 22 #[.slice (some ⟨b11, 0, none⟩) 0 0, .slice cells n8.toNat cells_c]) (fun u14 w13 => ∃ (a15 : Option Addr) (l15 c15 : Nat), u14 = .slice a15 l15 c15 ∧ ∀ (b16 : Nat) (w17 :
    World), Alloc w13 w17 b16 (.cells #[.int .u64 c_0, .bool c_1, .int .u64 c_2, .bool c_3, .int .u64 c_4, .int .i64 c_5] 37) → SemW Try.prog (Builtin.append_ #[22, 22] 22 #[.slice a15 l15 c15, .slice (some ⟨b16, 0,
    none⟩) 1 1]) (fun u19 w18 => ∃ (a20 : Option Addr) (l20 c20 : Nat), u19 = .slice a20 l20 c20 ∧ ((b9 = true → (0 ≤ IntKind.i64.wrap (n8 + 1) ∧ IntKind.i64.wrap (n8 + 1) ≤ (cells_n : Nat)) ∧ SemW Try.prog
    (Builtin.append_ #[22, 22] 22 #[.slice a20 l20 c20, .slice (if cells_c = (IntKind.i64.wrap (n8 + 1)).toNat then cells else Option.map (fun x => Addr.add x ((IntKind.i64.wrap (n8 + 1)).toNat * 6)) cells) (cells_n -
    (IntKind.i64.wrap (n8 + 1)).toNat) (cells_c - (IntKind.i64.wrap (n8 + 1)).toNat)]) (fun u22 w21 => ∃ (a23 : Option Addr) (l23 c23 : Nat), u22 = .slice a23 l23 c23 ∧ R (.returned (.tuple #[.slice a23 l23 c23, .int .i64
    0])) w21) w18) ∧ (b9 = false → (0 ≤ n8 ∧ n8 ≤ (cells_n : Nat)) ∧ SemW Try.prog (Builtin.append_ #[22, 22] 22 #[.slice a20 l20 c20, .slice (if cells_c = n8.toNat then cells else Option.map (fun x => Addr.add x
    (n8.toNat * 6)) cells) (cells_n - n8.toNat) (cells_c - n8.toNat)]) (fun u25 w24 => ∃ (a26 : Option Addr) (l26 c26 : Nat), u25 = .slice a26 l26 c26 ∧ R (.returned (.tuple #[.slice a26 l26 c26, .int .i64 0])) w24)
    w18))) w17) w12))) ∧ ((!b9) = false → ∀ (b27 : Nat) (w28 : World), Alloc w6 w28 b27 (.cells #[] 37) → (0 ≤ n8 ∧ n8 ≤ (cells_c : Nat)) ∧ SemW Try.prog (Builtin.append_ #[22, 22] 22 #[.slice (some ⟨b27, 0, none⟩) 0 0,
    .slice cells n8.toNat cells_c]) (fun u30 w29 => ∃ (a31 : Option Addr) (l31 c31 : Nat), u30 = .slice a31 l31 c31 ∧ ∀ (b32 : Nat) (w33 : World), Alloc w29 w33 b32 (.cells #[.int .u64 c_0, .bool c_1, .int .u64 c_2, .bool
    c_3, .int .u64 c_4, .int .i64 c_5] 37) → SemW Try.prog (Builtin.append_ #[22, 22] 22 #[.slice a31 l31 c31, .slice (some ⟨b32, 0, none⟩) 1 1]) (fun u35 w34 => ∃ (a36 : Option Addr) (l36 c36 : Nat), u35 = .slice a36 l36
    c36 ∧ ((b9 = true → (0 ≤ IntKind.i64.wrap (n8 + 1) ∧ IntKind.i64.wrap (n8 + 1) ≤ (cells_n : Nat)) ∧ SemW Try.prog (Builtin.append_ #[22, 22] 22 #[.slice a36 l36 c36, .slice (if cells_c = (IntKind.i64.wrap (n8 +
    1)).toNat then cells else Option.map (fun x => Addr.add x ((IntKind.i64.wrap (n8 + 1)).toNat * 6)) cells) (cells_n - (IntKind.i64.wrap (n8 + 1)).toNat) (cells_c - (IntKind.i64.wrap (n8 + 1)).toNat)]) (fun u38 w37 => ∃
    (a39 : Option Addr) (l39 c39 : Nat), u38 = .slice a39 l39 c39 ∧ R (.returned (.tuple #[.slice a39 l39 c39, .int .i64 0])) w37) w34) ∧ (b9 = false → (0 ≤ n8 ∧ n8 ≤ (cells_n : Nat)) ∧ SemW Try.prog (Builtin.append_
    #[22, 22] 22 #[.slice a36 l36 c36, .slice (if cells_c = n8.toNat then cells else Option.map (fun x => Addr.add x (n8.toNat * 6)) cells) (cells_n - n8.toNat) (cells_c - n8.toNat)]) (fun u41 w40 => ∃ (a42 : Option Addr)
    (l42 c42 : Nat), u41 = .slice a42 l42 c42 ∧ R (.returned (.tuple #[.slice a42 l42 c42, .int .i64 0])) w40) w34))) w33) w28))))))
theorem sx18.ok {cells : Option Addr} {cells_n cells_c : Nat} {c_0 : Int} {c_1 : Bool} {c_2 : Int} {c_3 : Bool} {c_4 : Int} {c_5 : Int} {R : Ending → World → Prop} {w : World} (h : sx18 cells cells_n cells_c c_0 c_1 c_2 c_3 c_4 c_5 R w) : CallsW Try.prog 18 [.slice cells cells_n cells_c, .agg #[.int .u64 c_0, .bool c_1, .int .u64 c_2, .bool c_3, .int .u64 c_4, .int .i64 c_5]] w R :=
  callsW_of mix Try.func18 (by kernel_rfl) (by kernel_rfl) (Eq.mpr (by kernel_rfl : denFn Try.prog { locals := [3], sem := [31, 35, 43] } Try.f18 [.slice cells cells_n cells_c, .agg #[.int .u64 c_0, .bool c_1, .int .u64 c_2, .bool c_3, .int .u64 c_4, .int .i64 c_5]] R w = sx18 cells cells_n cells_c c_0 c_1 c_2 c_3 c_4 c_5 R w) h)

/- reprise/repriseref11.Drop -/
def sx20 (cells : Option Addr) (cells_n cells_c : Nat) (key : Int) (R : Ending → World → Prop) (w : World) : Prop :=
  CallsW Try.prog 37 [.slice cells cells_n cells_c] w (RetR R fun u2 w1 => ∃ (b3 : Bool), u2 = .bool b3 ∧ (((!b3) = true → R (.returned (.tuple #[.slice none 0 0, .int .i64 7])) w1) ∧ ((!b3) = false → ∀ (b5 : Nat) (w6 :
    World), Alloc w1 w6 b5 (.cells #[] 37) → ∃ (I7 : Option Addr → Nat → Nat → Int → World → Prop) (m7 : Option Addr → Nat → Nat → Int → World → Nat), I7 (some ⟨b5, 0, none⟩) 0 0 0 w6 ∧ ∀ (a8 : Option Addr) (l8 c8 : Nat)
    (n9 : Int) (w10 : World), I7 a8 l8 c8 n9 w10 → (((decide (n9 < ((cells_n : Nat) : Int))) = true → withSome cells (fun d11 => (0 ≤ n9 ∧ n9 < (cells_n : Nat)) ∧ ∃ (n12 : Int), w10.cell? (Addr.add d11 (n9.toNat * 6)) =
    some (.int .u64 n12) ∧ (((n12 != key) = true → withSome cells (fun d13 => (0 ≤ n9 ∧ n9 < (cells_n : Nat)) ∧ ∃ (n14 : Int) (b15 : Bool) (n16 : Int) (b17 : Bool) (n18 : Int) (n19 : Int), CellsAt w10 (Addr.add d13
    (n9.toNat * 6)) 0 [.int .u64 n14, .bool b15, .int .u64 n16, .bool b17, .int .u64 n18, .int .i64 n19] ∧ ∀ (b20 : Nat) (w21 : World), Alloc w10 w21 b20 (.cells #[.int .u64 n14, .bool b15, .int .u64 n16, .bool b17, .int
    .u64 n18, .int .i64 n19] 37) → SemW Try.prog (Builtin.append_ #[22, 22] 22 #[.slice a8 l8 c8, .slice (some ⟨b20, 0, none⟩) 1 1]) (fun u23 w22 => ∃ (a24 : Option Addr) (l24 c24 : Nat), u23 = .slice a24 l24 c24 ∧ (I7
    a24 l24 c24 (IntKind.i64.wrap (n9 + 1)) w22 ∧ m7 a24 l24 c24 (IntKind.i64.wrap (n9 + 1)) w22 < m7 a8 l8 c8 n9 w10)) w21)) ∧ ((n12 != key) = false → (I7 a8 l8 c8 (IntKind.i64.wrap (n9 + 1)) w10 ∧ m7 a8 l8 c8
    (IntKind.i64.wrap (n9 + 1)) w10 < m7 a8 l8 c8 n9 w10))))) ∧ ((decide (n9 < ((cells_n : Nat) : Int))) = false → R (.returned (.tuple #[.slice a8 l8 c8, .int .i64 0])) w10)))))
theorem sx20.ok {cells : Option Addr} {cells_n cells_c : Nat} {key : Int} {R : Ending → World → Prop} {w : World} (h : sx20 cells cells_n cells_c key R w) : CallsW Try.prog 20 [.slice cells cells_n cells_c, .int .u64 key] w R :=
  callsW_of mix Try.func20 (by kernel_rfl) (by kernel_rfl) (Eq.mpr (by kernel_rfl : denFn Try.prog { sem := [31], loops := [(5, { slots := [(6, .slice), (7, .int .i64)], cells := [] })] } Try.f20 [.slice cells cells_n cells_c, .int .u64 key] R w = sx20 cells cells_n cells_c key R w) h)


theorem Rising_ok {a : Option Addr} {n c : Nat} {l : List CellV} {w : World} (hr : Reads w Enc.cell (a, n, c) l) (hn : l.length ≤ 9223372036854775807) : CallsW Try.prog 37 [.slice a n c] w (Rets fun v w' => v = .bool (risingB l) ∧ Grew w w') := by
  refine sx37.ok ?_
  unfold sx37
  obtain ⟨hs, hn', -, -⟩ := hr
  replace hn' : n = l.length := hn'
  replace hs : Sl w a Enc.cell l := hs
  subst hn'
  refine ⟨fun i w' => ∃ k : Nat, i = k ∧ 1 ≤ k ∧ (∀ (j : Nat) (x y : CellV), j + 1 < k → l[j]? = some x → l[j + 1]? = some y → x.key < y.key) ∧ Grew w w', fun i _ => l.length - i.toNat, ⟨1, rfl, by decide, fun j x y h => by omega, Grew.refl _⟩, ?_⟩
  rintro i w' ⟨k, rfl, hk, hlt, hg⟩
  refine ⟨fun h => ?_, fun h => ?_⟩
  · simp only [decide_eq_true_eq] at h
    have hw1 : IntKind.i64.wrap ((k : Int) - 1) = ((k - 1 : Nat) : Int) := by rw [IntKind.wrap_i64]; omega
    have hw2 : IntKind.i64.wrap ((k : Int) + 1) = ((k + 1 : Nat) : Int) := by rw [IntKind.wrap_i64]; omega
    have hs' := hs.grew hg
    obtain ⟨d, y, rfl, hy, hcy⟩ := hs'.at_ (n := k) (by omega) (by omega)
    obtain ⟨d', x, hd', hx, hcx⟩ := hs'.at_ (n := ((k - 1 : Nat) : Int)) (by omega) (by omega)
    cases hd'
    simp only [Int.toNat_natCast] at hx hy hcx hcy
    rw [hw1, hw2]
    refine ⟨by omega, y.key, by simpa [Addr.add_zero', Enc.cell] using hcy.1, ⟨by omega, by omega⟩, x.key, by simpa [Addr.add_zero', Enc.cell] using hcx.1, fun w8 hg8 => ⟨fun hle => ?_, fun hle => ?_⟩⟩
    · simp only [decide_eq_true_eq] at hle
      refine ⟨_, rfl, ?_, hg.trans hg8⟩
      have : risingB l = false := by
        apply Bool.eq_false_iff.2
        intro hr
        have := (risingB_iff l).1 hr (k - 1) x y hx (by rw [show k - 1 + 1 = k from by omega]; exact hy)
        omega
      rw [this]
    · simp only [decide_eq_false_iff_not] at hle
      refine ⟨⟨k + 1, rfl, by omega, fun j u v hj hu hv => ?_, hg.trans hg8⟩, by show l.length - (((k + 1 : Nat) : Int)).toNat < l.length - ((k : Int)).toNat; omega⟩
      by_cases hjk : j + 1 < k
      · exact hlt j u v hjk hu hv
      · have : j = k - 1 := by omega
        subst this
        rw [show k - 1 + 1 = k from by omega] at hv
        rw [hx] at hu; rw [hy] at hv
        cases hu; cases hv; omega
  · simp only [decide_eq_false_iff_not] at h
    refine ⟨_, rfl, ?_, hg⟩
    have : risingB l = true := (risingB_iff l).2 fun i x y hx hy => by
      have : i + 1 < l.length := by
        rcases Nat.lt_or_ge (i + 1) l.length with h' | h'
        · exact h'
        · rw [List.getElem?_eq_none h'] at hy; cases hy
      exact hlt i x y (by omega) hx hy
    rw [this]

theorem rFind_ok {a : Option Addr} {n c : Nat} {l : List CellV} {key : Int} {w : World} (hr : Reads w Enc.cell (a, n, c) l) (hl : l.length ≤ 9223372036854775807) :
    CallsW Try.prog 16 [.slice a n c, .int .u64 key] w (Rets fun v w' => v = .tuple #[.int .i64 (findB l key).1, .bool (findB l key).2] ∧ Grew w w') := by
  refine sx16.ok ?_
  unfold sx16
  refine (Rising_ok hr hl).use fun v w1 ⟨hv, hg1⟩ => ?_
  subst hv
  have hn : n = l.length := hr.2.1
  refine ⟨_, rfl, fun h => ?_, fun h => ?_⟩
  · have h' : risingB l = false := by simpa using h
    exact ⟨_, rfl, by rw [findB, h']; rfl, hg1⟩
  have h' : risingB l = true := by simpa using h
  refine ⟨fun i w' => ∃ k : Nat, i = k ∧ k ≤ l.length ∧ (∀ (i : Nat) (x : CellV), i < k → l[i]? = some x → x.key < key) ∧ Grew w w', fun i _ => l.length - i.toNat, ⟨0, rfl, Nat.zero_le _, fun i x h => by omega, hg1⟩, ?_⟩
  rintro i w' ⟨k, rfl, hk, hlt, hg⟩
  have hend : (∀ x, l[k]? = some x → ¬ x.key < key) → findB l key = (k, (l[k]?).any fun x => x.key == key) := by
    intro hx
    have htw : (l.takeWhile fun x => decide (x.key < key)).length = k := takeWhile_len _ l k hk (fun i x hi hx => by simpa using hlt i x hi hx) (fun x h => by simpa using hx x h)
    rw [findB, if_pos h', htw]
  refine ⟨fun h => ?_, fun h => ?_⟩
  · simp only [decide_eq_true_eq] at h
    obtain ⟨d, x, rfl, hx, hcx⟩ := (hr.grew hg).at0 (k := k) (by omega)
    have hkey : w'.cell? (d.add (k * 6)) = some (.int .u64 x.key) := by simpa [Addr.add_zero', Enc.cell] using hcx.1
    have hw : IntKind.i64.wrap ((k : Int) + 1) = ((k + 1 : Nat) : Int) := by rw [IntKind.wrap_i64]; omega
    rw [hw]
    refine ⟨by omega, x.key, hkey, fun hp => ?_, fun hp => ?_⟩
    · simp only [decide_eq_true_eq] at hp
      refine ⟨⟨k + 1, rfl, by omega, fun j y hj hy => ?_, hg⟩, by show l.length - (((k + 1 : Nat) : Int)).toNat < l.length - ((k : Int)).toNat; omega⟩
      by_cases hjk : j < k
      · exact hlt j y hjk hy
      · have : j = k := by omega
        subst this; rw [hx] at hy; cases hy; exact hp
    · simp only [decide_eq_false_iff_not] at hp
      have hf := hend fun y hy => by rw [hx] at hy; cases hy; exact hp
      refine ⟨fun _ => ⟨by omega, x.key, hkey, fun w12 hg12 => ⟨_, rfl, ?_, hg.trans hg12⟩⟩, fun h2 => by simp at h2; omega⟩
      rw [hf, hx]; rfl
  · simp only [decide_eq_false_iff_not] at h
    have hx0 : l[k]? = none := List.getElem?_eq_none (by omega)
    have hf := hend fun y hy => by rw [hx0] at hy; cases hy
    refine ⟨fun h2 => by simp at h2; omega, fun _ w12 hg12 => ⟨_, rfl, ?_, hg.trans hg12⟩⟩
    rw [hf, hx0]; rfl

theorem pushC_ok {w0 w w' : World} {a a2 : Option Addr} {n c n2 c2 : Nat} {l l2 : List CellV} {k : Value → World → Prop} (ho : Own w w0.heap.size 37 Enc.cell a n c l) (hg : Grew w0 w) (hf : Reads w' Enc.cell (a2, n2, c2) l2) (hg2 : Grew w w')
    (hlen : (l.length + l2.length) * 48 ≤ 140737488355328) (hk : ∀ a3 n3 c3 w3, Own w3 w0.heap.size 37 Enc.cell a3 n3 c3 (l ++ l2) → Grew w0 w3 → k (.slice a3 n3 c3) w3) :
    SemW Try.prog (Builtin.append_ #[22, 22] 22 #[.slice a n c, .slice a2 n2 c2]) k w' := by
  refine append_sl ec (ho.grew hg2) hf.1 hf.2.1 hf.2.2.1 (Nat.le_trans hg.size hg2.size) (by simp only [maxLen]; omega) hlen ?_
  rintro v w3 ⟨a3, n3, c3, rfl, ho3, hu3, -⟩
  exact hk a3 n3 c3 w3 ho3 ((hg.trans hg2).then_own hu3 fun b hb => (ho.blk hb).1)

theorem pushC1_ok {w0 w w' : World} {a : Option Addr} {n c b : Nat} {l : List CellV} {x : CellV} {cs : Array Value} {k : Value → World → Prop} (ho : Own w w0.heap.size 37 Enc.cell a n c l) (hg : Grew w0 w) (hal : Alloc w w' b (.cells cs 37)) (hcs : cs = x.vals.toArray)
    (hlen : (l.length + 1) * 48 ≤ 140737488355328) (hk : ∀ a3 n3 c3 w3, Own w3 w0.heap.size 37 Enc.cell a3 n3 c3 (l ++ [x]) → Grew w0 w3 → k (.slice a3 n3 c3) w3) :
    SemW Try.prog (Builtin.append_ #[22, 22] 22 #[.slice a n c, .slice (some ⟨b, 0, none⟩) 1 1]) k w' := by
  subst hcs
  exact pushC_ok (l2 := [x]) ho hg (Own.alloc (l := [x]) hal (Nat.le_refl _) (by simp [Enc.cell]) (by simp [maxLen])).reads hal.grew (by simpa using hlen) hk

theorem putC_set (l : List CellV) (k : Nat) (x : CellV) (h : k < l.length) : l.set k x = l.take k ++ [x] ++ l.drop (k + 1) := by
  rw [List.set_eq_take_append_cons_drop, if_pos h]; simp

theorem rPutC_ok {a : Option Addr} {n c : Nat} {l : List CellV} {x : CellV} {w : World} (hr : Reads w Enc.cell (a, n, c) l) (hl : l.length * 48 ≤ 140737488355328) :
    CallsW Try.prog 18 [.slice a n c, .agg x.vals.toArray] w (Rets (CellsErr w (putC l x))) := by
  refine sx18.ok ?_
  unfold sx18
  intro w1 hg1
  refine (Rising_ok (hr.grew hg1) (by omega)).use fun v w2 ⟨hv, hg2⟩ => ?_
  subst hv
  have hg2' := hg1.trans hg2
  refine ⟨_, rfl, fun h => ?_, fun h => ?_⟩
  · have h' : risingB l = false := by simpa using h
    exact ⟨_, rfl, by rw [putC, if_pos h']; exact .no hg2' _⟩
  have h' : ¬ risingB l = false := by simpa using h
  refine (rFind_ok (hr.grew hg2') (by omega)).use fun v w6 ⟨hv, hg6⟩ => ?_
  subst hv
  have hg6' := hg2'.trans hg6
  have hfl := findB_le l x.key
  have hn : n = l.length := hr.2.1
  have hnc : n ≤ c := hr.2.2.2
  refine ⟨_, _, rfl, fun hb => ⟨fun h16 => ?_, fun h16 => ?_⟩, fun hb => ?_⟩
  · have e1 : (findB l x.key).2 = false := by simpa using hb
    have e2 : 16 ≤ l.length := by simp at h16; omega
    exact ⟨_, rfl, by rw [putC, if_neg h', if_pos ⟨e1, e2⟩]; exact .no hg6' _⟩
  all_goals
    have hno : ¬ ((findB l x.key).2 = false ∧ 16 ≤ l.length) := by
      first | (simp at h16; intro hh; omega) | (simp at hb; intro hh; rw [hb] at hh; simp at hh)
    have hroom : ((l.take (findB l x.key).1).length + 1) * 48 ≤ 140737488355328 := by
      rw [List.length_take]
      by_cases ht : (findB l x.key).2 = true
      · have := hfl.2 ht; omega
      · have : ¬ 16 ≤ l.length := fun h => hno ⟨by simpa using ht, h⟩
        omega
    intro b11 w12 hal
    have ho0 := Own.alloc (E := Enc.cell) (l := []) hal (Nat.le_refl _) rfl (by decide)
    have hg12 := hg6'.trans hal.grew
    have hr12 := hr.grew hg12
    have hcut := hr12.cut (i := 0) (j := (findB l x.key).1) (Nat.zero_le _) (by omega)
    have hcut' : Reads w12 Enc.cell (a, (findB l x.key).1, c) (l.take (findB l x.key).1) := by
      refine ⟨hr12.1.take _, by simp; omega, hr12.2.2.1, by show (findB l x.key).1 ≤ c; omega⟩
    refine ⟨by omega, ?_⟩
    simp only [Int.toNat_natCast]
    refine pushC_ok (w0 := w) (ho0.base hg6'.size) hg12 hcut' (Grew.refl _) (by rw [List.length_take]; simp; omega) ?_
    intro a15 l15 c15 w13 ho13 hg13
    refine ⟨a15, l15, c15, rfl, fun b16 w17 hal17 => ?_⟩
    refine pushC1_ok (x := x) ho13 hg13 hal17 rfl (by rw [List.nil_append]; exact hroom) ?_
    intro a20 l20 c20 w18 ho18 hg18
    refine ⟨a20, l20, c20, rfl, fun ht => ?_, fun ht => ?_⟩
    · have hlt := hfl.2 ht
      have hw : IntKind.i64.wrap (((findB l x.key).1 : Int) + 1) = (((findB l x.key).1 + 1 : Nat) : Int) := by rw [IntKind.wrap_i64]; omega
      rw [hw]
      simp only [Int.toNat_natCast]
      refine ⟨by omega, pushC_ok ho18 hg18 ((hr.grew hg18).from (i := (findB l x.key).1 + 1) (by omega)) (Grew.refl _) (by simp; omega) ?_⟩
      intro a23 l23 c23 w21 ho21 hg21
      refine ⟨a23, l23, c23, rfl, _, rfl, ?_⟩
      rw [putC, if_neg h', if_neg hno, if_pos ht, putC_set _ _ _ hlt]
      exact ⟨_, _, _, rfl, by simpa using ho21, hg21⟩
    · refine ⟨by omega, pushC_ok ho18 hg18 ((hr.grew hg18).from (i := (findB l x.key).1) (by omega)) (Grew.refl _) (by have : ¬ 16 ≤ l.length := fun h => hno ⟨ht, h⟩; simp; omega) ?_⟩
      intro a23 l23 c23 w21 ho21 hg21
      refine ⟨a23, l23, c23, rfl, _, rfl, ?_⟩
      rw [putC, if_neg h', if_neg hno, if_neg (by rw [ht]; simp)]
      exact ⟨_, _, _, rfl, by simpa using ho21, hg21⟩

theorem rDropC_ok {a : Option Addr} {n c : Nat} {l : List CellV} {key : Int} {w : World} (hr : Reads w Enc.cell (a, n, c) l) (hl : l.length * 48 ≤ 140737488355328) :
    CallsW Try.prog 20 [.slice a n c, .int .u64 key] w (Rets (CellsErr w (dropC l key))) := by
  refine sx20.ok ?_
  unfold sx20
  refine (Rising_ok hr (by omega)).use fun v w1 ⟨hv, hg1⟩ => ?_
  subst hv
  have hn : n = l.length := hr.2.1
  refine ⟨_, rfl, fun h => ?_, fun h => ?_⟩
  · have h' : risingB l = false := by simpa using h
    exact ⟨_, rfl, by rw [dropC, if_pos h']; exact .no hg1 _⟩
  have h' : ¬ risingB l = false := by simpa using h
  intro b5 w6 hal
  have ho0 := Own.alloc (E := Enc.cell) (l := []) hal (Nat.le_refl _) rfl (by decide)
  refine ⟨fun a8 l8 c8 i w' => ∃ k : Nat, i = k ∧ k ≤ l.length ∧ Own w' w.heap.size 37 Enc.cell a8 l8 c8 ((l.take k).filter fun x => !(x.key == key)) ∧ Grew w w', fun _ _ _ i _ => l.length - i.toNat, ⟨0, rfl, Nat.zero_le _, by simpa using ho0.base hg1.size, hg1.trans hal.grew⟩, ?_⟩
  rintro a8 l8 c8 i w10 ⟨k, rfl, hk, ho, hg⟩
  refine ⟨fun h => ?_, fun h => ?_⟩
  · simp only [decide_eq_true_eq] at h
    obtain ⟨d, x, rfl, hx, hcx⟩ := (hr.grew hg).at0 (k := k) (by omega)
    have hw : IntKind.i64.wrap ((k : Int) + 1) = ((k + 1 : Nat) : Int) := by rw [IntKind.wrap_i64]; omega
    rw [hw]
    refine ⟨by omega, x.key, by simpa [Addr.add_zero', Enc.cell] using hcx.1, fun hne => ?_, fun heq => ?_⟩
    · have hne' : ¬ x.key = key := by simpa using hne
      refine ⟨by omega, x.key, x.ph, x.pb, x.ch, x.cb, x.batch, by simpa [CellV.vals, Enc.cell] using hcx, fun b20 w21 hal21 => ?_⟩
      have hfl : ((l.take k).filter fun x => !(x.key == key)).length ≤ k := Nat.le_trans (List.length_filter_le _ _) (by simp; omega)
      refine pushC1_ok (x := x) ho hg hal21 rfl (by omega) ?_
      intro a24 l24 c24 w22 ho22 hg22
      refine ⟨a24, l24, c24, rfl, ⟨k + 1, rfl, by omega, ?_, hg22⟩, by show l.length - (((k + 1 : Nat) : Int)).toNat < l.length - ((k : Int)).toNat; omega⟩
      rw [take_snoc hx, List.filter_append]
      simpa [hne'] using ho22
    · have heq' : x.key = key := by simpa using heq
      refine ⟨⟨k + 1, rfl, by omega, ?_, hg⟩, by show l.length - (((k + 1 : Nat) : Int)).toNat < l.length - ((k : Int)).toNat; omega⟩
      rw [take_snoc hx, List.filter_append]
      simpa [heq'] using ho
  · simp only [decide_eq_false_iff_not] at h
    have hkl : k = l.length := by omega
    subst hkl
    rw [List.take_length] at ho
    refine ⟨_, rfl, ?_⟩
    rw [dropC, if_neg h']
    exact ⟨_, _, _, rfl, ho, hg⟩
end Go.Proofs.Ytnbknhcpjggabaa
