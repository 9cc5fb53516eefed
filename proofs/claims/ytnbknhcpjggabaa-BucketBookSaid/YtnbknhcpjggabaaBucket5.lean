/- What Find, Put, Drop, same and laid hand back. Conditions: none. -/
import Derived.Test.YtnbknhcpjggabaaProg
import Derived.Test.YtnbknhcpjggabaaSlicesC
import Derived.Test.YtnbknhcpjggabaaSxP
namespace Go.Proofs.Ytnbknhcpjggabaa
open Go.Sx
set_option maxRecDepth 100000
set_option linter.unusedVariables false
set_option linter.unusedSimpArgs false
/- cmp.isNaN[uint64] -/
def sx49 (x : Int) (R : Ending → World → Prop) (w : World) : Prop :=
  R (.returned (.bool (x != x))) w
theorem sx49.ok {x : Int} {R : Ending → World → Prop} {w : World} (h : sx49 x R w) : CallsW Try.prog 49 [.int .u64 x] w R :=
  callsW_of mix Try.func49 (by kernel_rfl) (by kernel_rfl) (Eq.mpr (by kernel_rfl : denFn Try.prog {} Try.f49 [.int .u64 x] R w = sx49 x R w) h)

/- cmp.Compare[uint64] -/
def sx36 (x : Int) (y : Int) (R : Ending → World → Prop) (w : World) : Prop :=
  CallsW Try.prog 49 [.int .u64 x] w (RetR R fun u2 w1 => ∃ (b3 : Bool), u2 = .bool b3 ∧ CallsW Try.prog 49 [.int .u64 y] w1 (RetR R fun u6 w5 => ∃ (b7 : Bool), u6 = .bool b7 ∧ ((b3 = true → ((b7 = true → R (.returned (.int
    .i64 0)) w5) ∧ (b7 = false → R (.returned (.int .i64 (-1))) w5))) ∧ (b3 = false → ((b7 = true → R (.returned (.int .i64 1)) w5) ∧ (b7 = false → (((decide (x < y)) = true → R (.returned (.int .i64 (-1))) w5) ∧ ((decide
    (x < y)) = false → (((decide (x > y)) = true → R (.returned (.int .i64 1)) w5) ∧ ((decide (x > y)) = false → R (.returned (.int .i64 0)) w5))))))))))
theorem sx36.ok {x : Int} {y : Int} {R : Ending → World → Prop} {w : World} (h : sx36 x y R w) : CallsW Try.prog 36 [.int .u64 x, .int .u64 y] w R :=
  callsW_of mix Try.func36 (by kernel_rfl) (by kernel_rfl) (Eq.mpr (by kernel_rfl : denFn Try.prog {} Try.f36 [.int .u64 x, .int .u64 y] R w = sx36 x y R w) h)

/- reprise/bucket.Find$1 -/
def sx35 (c_0 : Int) (c_1 : Bool) (c_2 : Int) (c_3 : Bool) (c_4 : Int) (c_5 : Int) (key : Int) (R : Ending → World → Prop) (w : World) : Prop :=
  ∀ w1, Grew w w1 → CallsW Try.prog 36 [.int .u64 c_0, .int .u64 key] w1 (RetR R fun u3 w2 => ∃ (n4 : Int), u3 = .int .i64 n4 ∧ R (.returned (.int .i64 n4)) w2)
theorem sx35.ok {c_0 : Int} {c_1 : Bool} {c_2 : Int} {c_3 : Bool} {c_4 : Int} {c_5 : Int} {key : Int} {R : Ending → World → Prop} {w : World} (h : sx35 c_0 c_1 c_2 c_3 c_4 c_5 key R w) : CallsW Try.prog 35 [.agg #[.int .u64 c_0, .bool c_1, .int .u64 c_2, .bool c_3, .int .u64 c_4, .int .i64 c_5], .int .u64 key] w R :=
  callsW_of mix Try.func35 (by kernel_rfl) (by kernel_rfl) (Eq.mpr (by kernel_rfl : denFn Try.prog { locals := [2] } Try.f35 [.agg #[.int .u64 c_0, .bool c_1, .int .u64 c_2, .bool c_3, .int .u64 c_4, .int .i64 c_5], .int .u64 key] R w = sx35 c_0 c_1 c_2 c_3 c_4 c_5 key R w) h)

/- reprise/bucket.Drop$1 -/
def sx41 (c_0 : Int) (c_1 : Bool) (c_2 : Int) (c_3 : Bool) (c_4 : Int) (c_5 : Int) (q0 : Nat) (R : Ending → World → Prop) (w : World) : Prop :=
  ∀ w1, Grew w w1 → ∃ (n2 : Int), w1.cell? ⟨q0, 0, none⟩ = some (.int .u64 n2) ∧ R (.returned (.bool (c_0 == n2))) w1
theorem sx41.ok {c_0 : Int} {c_1 : Bool} {c_2 : Int} {c_3 : Bool} {c_4 : Int} {c_5 : Int} {q0 : Nat} {R : Ending → World → Prop} {w : World} (h : sx41 c_0 c_1 c_2 c_3 c_4 c_5 q0 R w) : CallsW Try.prog 41 [.agg #[.int .u64 c_0, .bool c_1, .int .u64 c_2, .bool c_3, .int .u64 c_4, .int .i64 c_5], .pointer (some ⟨q0, 0, none⟩)] w R :=
  callsW_of mix Try.func41 (by kernel_rfl) (by kernel_rfl) (Eq.mpr (by kernel_rfl : denFn Try.prog { locals := [2] } Try.f41 [.agg #[.int .u64 c_0, .bool c_1, .int .u64 c_2, .bool c_3, .int .u64 c_4, .int .i64 c_5], .pointer (some ⟨q0, 0, none⟩)] R w = sx41 c_0 c_1 c_2 c_3 c_4 c_5 q0 R w) h)

/- reprise/bucket.Find -/
def sx15 (cells : Option Addr) (cells_n cells_c : Nat) (key : Int) (R : Ending → World → Prop) (w : World) : Prop :=
  CallsW Try.prog 23 [.slice cells cells_n cells_c] w (RetR R fun u2 w1 => ∃ (b3 : Bool), u2 = .bool b3 ∧ (((!b3) = true → R (.returned (.tuple #[.int .i64 0, .bool false])) w1) ∧ ((!b3) = false → CallsW Try.prog 34 [.slice
    cells cells_n cells_c, .int .u64 key, .func (.func 35) #[] #[]] w1 (RetR R fun u6 w5 => ∃ (n7 : Int) (b8 : Bool), u6 = .tuple #[.int .i64 n7, .bool b8] ∧ R (.returned (.tuple #[.int .i64 n7, .bool b8])) w5))))
theorem sx15.ok {cells : Option Addr} {cells_n cells_c : Nat} {key : Int} {R : Ending → World → Prop} {w : World} (h : sx15 cells cells_n cells_c key R w) : CallsW Try.prog 15 [.slice cells cells_n cells_c, .int .u64 key] w R :=
  callsW_of mix Try.func15 (by kernel_rfl) (by kernel_rfl) (Eq.mpr (by kernel_rfl : denFn Try.prog {} Try.f15 [.slice cells cells_n cells_c, .int .u64 key] R w = sx15 cells cells_n cells_c key R w) h)

/- reprise/bucket.Put -/
def sx17 (cells : Option Addr) (cells_n cells_c : Nat) (c_0 : Int) (c_1 : Bool) (c_2 : Int) (c_3 : Bool) (c_4 : Int) (c_5 : Int) (R : Ending → World → Prop) (w : World) : Prop :=
  ∀ w1, Grew w w1 → CallsW Try.prog 23 [.slice cells cells_n cells_c] w1 (RetR R fun u3 w2 => ∃ (b4 : Bool), u3 = .bool b4 ∧ (((!b4) = true → R (.returned (.tuple #[.slice none 0 0, .int .i64 7])) w2) ∧ ((!b4) = false →
    CallsW Try.prog 15 [.slice cells cells_n cells_c, .int .u64 c_0] w2 (RetR R fun u7 w6 => ∃ (n8 : Int) (b9 : Bool), u7 = .tuple #[.int .i64 n8, .bool b9] ∧ (((!b9) = true → (((decide (((cells_n : Nat) : Int) ≥ 16)) =
    true → R (.returned (.tuple #[.slice none 0 0, .int .i64 92])) w6) ∧ ((decide (((cells_n : Nat) : Int) ≥ 16)) = false → CallsW Try.prog 38 [.slice cells cells_n cells_c] w6 (RetR R fun u12 w11 => ∃ (a13 : Option Addr)
    (l13 c13 : Nat), u12 = .slice a13 l13 c13 ∧ ((b9 = true → withSome a13 (fun d15 => (0 ≤ n8 ∧ n8 < (l13 : Nat)) ∧ RoomAt w11 (Addr.add d15 (n8.toNat * 6)) 0 [.int .u64 c_0, .bool c_1, .int .u64 c_2, .bool c_3, .int
    .u64 c_4, .int .i64 c_5] ∧ ∀ w16, w16 = setCells w11 (Addr.add d15 (n8.toNat * 6)) 0 [.int .u64 c_0, .bool c_1, .int .u64 c_2, .bool c_3, .int .u64 c_4, .int .i64 c_5] → R (.returned (.tuple #[.slice a13 l13 c13, .int
    .i64 0])) w16)) ∧ (b9 = false → ∀ (b17 : Nat) (w18 : World), Alloc w11 w18 b17 (.cells #[.int .u64 c_0, .bool c_1, .int .u64 c_2, .bool c_3, .int .u64 c_4, .int .i64 c_5] 37) → CallsW Try.prog 39 [.slice a13 l13 c13,
    .int .i64 n8, .slice (some ⟨b17, 0, none⟩) 1 1] w18 (RetR R fun u20 w19 => ∃ (a21 : Option Addr) (l21 c21 : Nat), u20 = .slice a21 l21 c21 ∧ R (.returned (.tuple #[.slice a21 l21 c21, .int .i64 0])) w19))))))) ∧
    ((!b9) = false → CallsW Try.prog 38 [.slice cells cells_n cells_c] w6 (RetR R fun u24 w23 => ∃ (a25 : Option Addr) (l25 c25 : Nat), u24 = .slice a25 l25 c25 ∧ ((b9 = true → withSome a25 (fun d27 => (0 ≤ n8 ∧ n8 < (l25
    : Nat)) ∧ RoomAt w23 (Addr.add d27 (n8.toNat * 6)) 0 [.int .u64 c_0, .bool c_1, .int .u64 c_2, .bool c_3, .int .u64 c_4, .int .i64 c_5] ∧ ∀ w28, w28 = setCells w23 (Addr.add d27 (n8.toNat * 6)) 0 [.int .u64 c_0, .bool
    c_1, .int .u64 c_2, .bool c_3, .int .u64 c_4, .int .i64 c_5] → R (.returned (.tuple #[.slice a25 l25 c25, .int .i64 0])) w28)) ∧ (b9 = false → ∀ (b29 : Nat) (w30 : World), Alloc w23 w30 b29 (.cells #[.int .u64 c_0,
    .bool c_1, .int .u64 c_2, .bool c_3, .int .u64 c_4, .int .i64 c_5] 37) → CallsW Try.prog 39 [.slice a25 l25 c25, .int .i64 n8, .slice (some ⟨b29, 0, none⟩) 1 1] w30 (RetR R fun u32 w31 => ∃ (a33 : Option Addr) (l33
    c33 : Nat), u32 = .slice a33 l33 c33 ∧ R (.returned (.tuple #[.slice a33 l33 c33, .int .i64 0])) w31))))))))))
theorem sx17.ok {cells : Option Addr} {cells_n cells_c : Nat} {c_0 : Int} {c_1 : Bool} {c_2 : Int} {c_3 : Bool} {c_4 : Int} {c_5 : Int} {R : Ending → World → Prop} {w : World} (h : sx17 cells cells_n cells_c c_0 c_1 c_2 c_3 c_4 c_5 R w) : CallsW Try.prog 17 [.slice cells cells_n cells_c, .agg #[.int .u64 c_0, .bool c_1, .int .u64 c_2, .bool c_3, .int .u64 c_4, .int .i64 c_5]] w R :=
  callsW_of mix Try.func17 (by kernel_rfl) (by kernel_rfl) (Eq.mpr (by kernel_rfl : denFn Try.prog { locals := [3] } Try.f17 [.slice cells cells_n cells_c, .agg #[.int .u64 c_0, .bool c_1, .int .u64 c_2, .bool c_3, .int .u64 c_4, .int .i64 c_5]] R w = sx17 cells cells_n cells_c c_0 c_1 c_2 c_3 c_4 c_5 R w) h)

/- reprise/bucket.Drop -/
def sx19 (cells : Option Addr) (cells_n cells_c : Nat) (key : Int) (R : Ending → World → Prop) (w : World) : Prop :=
  ∀ (b1 : Nat) (w2 : World), Alloc w w2 b1 (.cells [.int .u64 key].toArray 33) → CallsW Try.prog 23 [.slice cells cells_n cells_c] w2 (RetR R fun u4 w3 => ∃ (b5 : Bool), u4 = .bool b5 ∧ (((!b5) = true → R (.returned (.tuple
    #[.slice none 0 0, .int .i64 7])) w3) ∧ ((!b5) = false → CallsW Try.prog 38 [.slice cells cells_n cells_c] w3 (RetR R fun u8 w7 => ∃ (a9 : Option Addr) (l9 c9 : Nat), u8 = .slice a9 l9 c9 ∧ CallsW Try.prog 40 [.slice
    a9 l9 c9, .func (.func 41) #[] #[.pointer (some ⟨b1, 0, none⟩)]] w7 (RetR R fun u12 w11 => ∃ (a13 : Option Addr) (l13 c13 : Nat), u12 = .slice a13 l13 c13 ∧ R (.returned (.tuple #[.slice a13 l13 c13, .int .i64 0]))
    w11)))))
theorem sx19.ok {cells : Option Addr} {cells_n cells_c : Nat} {key : Int} {R : Ending → World → Prop} {w : World} (h : sx19 cells cells_n cells_c key R w) : CallsW Try.prog 19 [.slice cells cells_n cells_c, .int .u64 key] w R :=
  callsW_of mix Try.func19 (by kernel_rfl) (by kernel_rfl) (Eq.mpr (by kernel_rfl : denFn Try.prog {} Try.f19 [.slice cells cells_n cells_c, .int .u64 key] R w = sx19 cells cells_n cells_c key R w) h)

/- reprise/repriselaw11.same -/
def sx14 (a : Option Addr) (a_n a_c : Nat) (b : Option Addr) (b_n b_c : Nat) (R : Ending → World → Prop) (w : World) : Prop :=
  (((((a_n : Nat) : Int) != ((b_n : Nat) : Int)) = true → R (.returned (.bool false)) w) ∧ ((((a_n : Nat) : Int) != ((b_n : Nat) : Int)) = false → ∃ (I1 : Int → World → Prop) (m1 : Int → World → Nat), I1 0 w ∧ ∀ (n2 : Int)
    (w3 : World), I1 n2 w3 → (((decide (n2 < ((a_n : Nat) : Int))) = true → withSome a (fun d4 => (0 ≤ n2 ∧ n2 < (a_n : Nat)) ∧ ∃ (n5 : Int) (b6 : Bool) (n7 : Int) (b8 : Bool) (n9 : Int) (n10 : Int), CellsAt w3 (Addr.add
    d4 (n2.toNat * 6)) 0 [.int .u64 n5, .bool b6, .int .u64 n7, .bool b8, .int .u64 n9, .int .i64 n10] ∧ withSome b (fun d11 => (0 ≤ n2 ∧ n2 < (b_n : Nat)) ∧ ∃ (n12 : Int) (b13 : Bool) (n14 : Int) (b15 : Bool) (n16 : Int)
    (n17 : Int), CellsAt w3 (Addr.add d11 (n2.toNat * 6)) 0 [.int .u64 n12, .bool b13, .int .u64 n14, .bool b15, .int .u64 n16, .int .i64 n17] ∧ ∃ (b18 : Bool), PureTo Try.prog (eqS .neq 37 (.tmp 20) (.tmp 24) (.agg
    #[.int .u64 n5, .bool b6, .int .u64 n7, .bool b8, .int .u64 n9, .int .i64 n10]) (.agg #[.int .u64 n12, .bool b13, .int .u64 n14, .bool b15, .int .u64 n16, .int .i64 n17])) (.bool b18) ∧ ∀ w19, Grew w3 w19 → ((b18 =
    true → R (.returned (.bool false)) w19) ∧ (b18 = false → (I1 (IntKind.i64.wrap (n2 + 1)) w19 ∧ m1 (IntKind.i64.wrap (n2 + 1)) w19 < m1 n2 w3)))))) ∧ ((decide (n2 < ((a_n : Nat) : Int))) = false → R (.returned (.bool
    true)) w3))))
theorem sx14.ok {a : Option Addr} {a_n a_c : Nat} {b : Option Addr} {b_n b_c : Nat} {R : Ending → World → Prop} {w : World} (h : sx14 a a_n a_c b b_n b_c R w) : CallsW Try.prog 14 [.slice a a_n a_c, .slice b b_n b_c] w R :=
  callsW_of mix Try.func14 (by kernel_rfl) (by kernel_rfl) (Eq.mpr (by kernel_rfl : denFn Try.prog { pureTo := [25], loops := [(4, { slots := [(5, .int .i64)], cells := [] })] } Try.f14 [.slice a a_n a_c, .slice b b_n b_c] R w = sx14 a a_n a_c b b_n b_c R w) h)

/- reprise/repriselaw11.laid -/
def sx21 (key : Int) (bits : Int) (R : Ending → World → Prop) (w : World) : Prop :=
  ∀ w1, Grew w w1 → R (.returned (.agg #[.int .u64 key, .bool false, .int .u64 0, .bool true, .int .u64 bits, .int .i64 1])) w1
theorem sx21.ok {key : Int} {bits : Int} {R : Ending → World → Prop} {w : World} (h : sx21 key bits R w) : CallsW Try.prog 21 [.int .u64 key, .int .u64 bits] w R :=
  callsW_of mix Try.func21 (by kernel_rfl) (by kernel_rfl) (Eq.mpr (by kernel_rfl : denFn Try.prog { locals := [4] } Try.f21 [.int .u64 key, .int .u64 bits] R w = sx21 key bits R w) h)


theorem isNaN_ok {x : Int} {w : World} : CallsW Try.prog 49 [.int .u64 x] w (Rets fun v w' => v = .bool false ∧ w' = w) := by
  refine sx49.ok ?_
  unfold sx49
  exact ⟨_, rfl, by simp, rfl⟩

def cmpB (x y : Int) : Int := if x < y then -1 else if y < x then 1 else 0
theorem Compare_ok {x y : Int} {w : World} : CallsW Try.prog 36 [.int .u64 x, .int .u64 y] w (Rets fun v w' => v = .int .i64 (cmpB x y) ∧ w' = w) := by
  refine sx36.ok ?_
  unfold sx36
  refine isNaN_ok.use fun v w1 ⟨hv, hw⟩ => ?_
  subst hv; subst hw
  refine ⟨_, rfl, isNaN_ok.use fun v w1 ⟨hv, hw⟩ => ?_⟩
  subst hv; subst hw
  refine ⟨_, rfl, ⟨fun h => (by cases h), fun _ => ⟨fun h => (by cases h), fun _ => ⟨fun h => ⟨_, rfl, ?_, rfl⟩, fun h => ⟨fun h2 => ⟨_, rfl, ?_, rfl⟩, fun h2 => ⟨_, rfl, ?_, rfl⟩⟩⟩⟩⟩⟩
  all_goals simp only [decide_eq_true_eq, decide_eq_false_iff_not] at *
  · rw [cmpB, if_pos h]
  · rw [cmpB, if_neg h, if_pos h2]
  · rw [cmpB, if_neg h, if_neg h2]

theorem findCmp_ok {x : CellV} {key : Int} {w : World} : CallsW Try.prog 35 [.agg x.vals.toArray, .int .u64 key] w (Rets fun v w' => v = .int .i64 (cmpB x.key key) ∧ Grew w w') := by
  refine sx35.ok ?_
  unfold sx35
  intro w1 hg
  refine Compare_ok.use fun v w2 ⟨hv, hw⟩ => ?_
  subst hv; subst hw
  exact ⟨_, rfl, _, rfl, rfl, hg⟩

theorem dropDel_ok {x : CellV} {key : Int} {b : Nat} {w : World} (hk : w.cell? ⟨b, 0, none⟩ = some (.int .u64 key)) : CallsW Try.prog 41 [.agg x.vals.toArray, .pointer (some ⟨b, 0, none⟩)] w (Rets fun v w' => v = .bool (x.key == key) ∧ Grew w w') := by
  refine sx41.ok ?_
  unfold sx41
  intro w1 hg
  exact ⟨key, hg.cell hk, _, rfl, rfl, hg⟩

theorem Find_ok {a : Option Addr} {n c : Nat} {l : List CellV} {key : Int} {w : World} (hr : Reads w Enc.cell (a, n, c) l) (hl : l.length < 4611686018427387904) :
    CallsW Try.prog 15 [.slice a n c, .int .u64 key] w (Rets fun v w' => v = .tuple #[.int .i64 (findB l key).1, .bool (findB l key).2] ∧ Grew w w') := by
  refine sx15.ok ?_
  unfold sx15
  refine (inOrder_ok hr (by omega)).use fun v w1 ⟨hv, hg1⟩ => ?_
  subst hv
  refine ⟨_, rfl, fun h => ?_, fun h => ?_⟩
  · have h' : risingB l = false := by simpa using h
    exact ⟨_, rfl, by rw [findB, h']; rfl, hg1⟩
  · have h' : risingB l = true := by simpa using h
    have hasc : ∀ (i j : Nat) (x y : CellV), i < j → l[i]? = some x → l[j]? = some y → x.key < y.key := by
      intro i j x y hij
      obtain ⟨d, rfl⟩ : ∃ d, j = i + 1 + d := ⟨j - i - 1, by omega⟩
      clear hij
      induction d generalizing y with
      | zero => intro hx hy; exact (risingB_iff l).1 h' i x y hx hy
      | succ d ih =>
        intro hx hy
        have hlt : i + 1 + d < l.length := by
          rcases Nat.lt_or_ge (i + 1 + (d + 1)) l.length with h' | h'
          · omega
          · rw [List.getElem?_eq_none h'] at hy; cases hy
        have := ih l[i + 1 + d] hx (by simp [hlt])
        have h2 := (risingB_iff l).1 h' (i + 1 + d) l[i + 1 + d] y (by simp [hlt]) hy
        omega
    have hcmp : ∀ x y : Int, cmpB x y < 0 ↔ x < y := by
      intro x y; unfold cmpB
      by_cases h1 : x < y
      · simp [h1]
      · by_cases h2 : y < x <;> simp [h1, h2]
    refine (BinarySearchFunc_ok (p := fun x => cmpB x.key key) (hr.grew hg1) hl ?_ ?_).use fun v w5 ⟨hg5, k, hk, hv⟩ => ?_
    · intro i j x y hij hx hy hp
      rw [hcmp] at hp ⊢
      rcases Nat.lt_or_eq_of_le hij with h | rfl
      · have := hasc i j x y h hx hy; omega
      · rw [hx] at hy; cases hy; exact hp
    · intro x hx w' hg'
      exact findCmp_ok
    subst hv
    have hf : findB l key = (k, (l[k]?).any fun x => cmpB x.key key == 0) := by
      rw [findB, if_pos h']
      have e1 : (l.takeWhile fun x => decide (x.key < key)) = l.takeWhile fun x => decide (cmpB x.key key < 0) := by
        congr 1; funext x; exact decide_eq_decide.2 (hcmp _ _).symm
      rw [e1, ← hk]
      congr 2
      funext x
      unfold cmpB
      by_cases h1 : x.key < key
      · have : ¬ x.key = key := by omega
        simp [h1, this]
      · by_cases h2 : key < x.key
        · have : ¬ x.key = key := by omega
          simp [h1, h2, this]
        · have : x.key = key := by omega
          simp [h1, h2, this]
    rw [hf]
    exact ⟨_, _, rfl, _, rfl, rfl, hg1.trans hg5⟩

theorem findB_le (l : List CellV) (key : Int) : (findB l key).1 ≤ l.length ∧ ((findB l key).2 = true → (findB l key).1 < l.length) := by
  unfold findB
  have h1 : (l.takeWhile fun x => decide (x.key < key)).length ≤ l.length := (List.takeWhile_sublist _).length_le
  split
  · refine ⟨h1, fun h => ?_⟩
    simp only at h ⊢
    rcases Nat.lt_or_ge (l.takeWhile fun x => decide (x.key < key)).length l.length with h' | h'
    · exact h'
    · rw [List.getElem?_eq_none h'] at h; cases h
  · simp

theorem Put_cells_ok {a : Option Addr} {n c : Nat} {l : List CellV} {x : CellV} {w : World} (hr : Reads w Enc.cell (a, n, c) l) (hl : l.length * 48 ≤ 140737488355328) :
    CallsW Try.prog 17 [.slice a n c, .agg x.vals.toArray] w (Rets (CellsErr w (putC l x))) := by
  refine sx17.ok ?_
  unfold sx17
  intro w1 hg1
  refine (inOrder_ok (hr.grew hg1) (by omega)).use fun v w2 ⟨hv, hg2⟩ => ?_
  subst hv
  have hg2' := hg1.trans hg2
  refine ⟨_, rfl, fun h => ?_, fun h => ?_⟩
  · have h' : risingB l = false := by simpa using h
    exact ⟨_, rfl, by rw [putC, if_pos h']; exact .no hg2' _⟩
  have h' : ¬ risingB l = false := by simpa using h
  refine (Find_ok (hr.grew hg2') (by omega)).use fun v w6 ⟨hv, hg6⟩ => ?_
  subst hv
  have hg6' := hg2'.trans hg6
  have hfl := findB_le l x.key
  have hn : n = l.length := hr.2.1
  refine ⟨_, _, rfl, fun hb => ⟨fun h16 => ?_, fun h16 => ?_⟩, fun hb => ?_⟩
  · have e1 : (findB l x.key).2 = false := by simpa using hb
    have e2 : 16 ≤ l.length := by simp at h16; omega
    exact ⟨_, rfl, by rw [putC, if_neg h', if_pos ⟨e1, e2⟩]; exact .no hg6' _⟩
  all_goals
    have hno : ¬ ((findB l x.key).2 = false ∧ 16 ≤ l.length) := by
      first | (simp at h16; intro hh; omega) | (simp at hb; intro hh; rw [hb] at hh; simp at hh)
    refine (Clone_ok (hr.grew hg6') (by omega)).use fun v w11 ⟨a13, l13, c13, hv, ho, hg11⟩ => ?_
    subst hv
    have hg11' := hg6'.trans hg11
    have hlen := ho.len
    refine ⟨a13, l13, c13, rfl, fun ht => ?_, fun ht => ?_⟩
    · have hlt := hfl.2 ht
      obtain ⟨d, rfl, hroom, hset, hu⟩ := ho.set hlt x
      refine ⟨by omega, by simpa [CellV.vals, Enc.cell] using hroom, ?_⟩
      rintro w16 rfl
      refine ⟨_, rfl, ?_⟩
      rw [putC, if_neg h', if_neg hno, if_pos ht]
      exact ⟨_, _, _, rfl, by simpa [CellV.vals, Enc.cell] using hset.base hg6'.size, by simpa [CellV.vals, Enc.cell] using hg11'.then_own hu fun b hb => Nat.le_trans hg6'.size (ho.blk hb).1⟩
    · intro b17 w18 hal
      have hov := Own.alloc (E := Enc.cell) (l := [x]) hal (Nat.le_refl _) rfl (by simp [maxLen])
      have hne : ¬ Blk a13 b17 := fun hb => by have := (ho.blk hb).2; have := hal.new; omega
      refine (Insert_ok (ho.grew hal.grew) hov hne (by omega) (by simp) (Nat.le_trans hg11.size hal.grew.size) (by have h16 : ¬ 16 ≤ l.length := fun h => hno ⟨ht, h⟩; simp; omega)).use fun v w19 ⟨a21, l21, c21, hv, ho21, hu21, hb21⟩ => ?_
      subst hv
      refine ⟨a21, l21, c21, rfl, _, rfl, ?_⟩
      rw [putC, if_neg h', if_neg hno, if_neg (by rw [ht]; simp)]
      exact ⟨_, _, _, rfl, by simpa using ho21.base hg6'.size, (hg11'.trans hal.grew).then_own hu21 fun b hb => Nat.le_trans hg6'.size (ho.blk hb).1⟩

theorem Drop_ok {a : Option Addr} {n c : Nat} {l : List CellV} {key : Int} {w : World} (hr : Reads w Enc.cell (a, n, c) l) (hl : l.length * 48 ≤ 140737488355328) :
    CallsW Try.prog 19 [.slice a n c, .int .u64 key] w (Rets (CellsErr w (dropC l key))) := by
  refine sx19.ok ?_
  unfold sx19
  intro b1 w2 hal
  have hg2 := hal.grew
  refine (inOrder_ok (hr.grew hg2) (by omega)).use fun v w3 ⟨hv, hg3⟩ => ?_
  subst hv
  have hg3' := hg2.trans hg3
  refine ⟨_, rfl, fun h => ?_, fun h => ?_⟩
  · have h' : risingB l = false := by simpa using h
    exact ⟨_, rfl, by rw [dropC, if_pos h']; exact .no hg3' _⟩
  have h' : ¬ risingB l = false := by simpa using h
  refine (Clone_ok (hr.grew hg3') (by omega)).use fun v w7 ⟨a9, l9, c9, hv, ho, hg7⟩ => ?_
  subst hv
  have hcell : w7.cell? ⟨b1, 0, none⟩ = some (.int .u64 key) := hg7.cell (hg3.cell (hal.cell (j := 0) rfl))
  have hb1 : b1 < w3.heap.size := Nat.lt_of_lt_of_le hal.lt hg3.size
  refine ⟨a9, l9, c9, rfl, (DeleteFunc_ok (p := fun x => x.key == key) (fc := [.pointer (some ⟨b1, 0, none⟩)]) ho (by omega) ?_).use ?_⟩
  · intro x hx w' hu
    exact dropDel_ok (hu.cell (fun hb => by have := (ho.blk hb).1; simp only at this; omega) hcell)
  · rintro v w11 ⟨a13, l13, c13, rfl, ho13, hu13, -⟩
    refine ⟨a13, l13, c13, rfl, _, rfl, ?_⟩
    rw [dropC, if_neg h']
    exact ⟨_, _, _, rfl, ho13.base hg3'.size, (hg3'.trans hg7).then_own hu13 fun b hb => Nat.le_trans hg3'.size (ho.blk hb).1⟩

theorem laid_ok {k b : Int} {w : World} : CallsW Try.prog 21 [.int .u64 k, .int .u64 b] w (Rets fun v w' => v = .agg (CellV.vals ⟨k, false, 0, true, b, 1⟩).toArray ∧ Grew w w') := by
  refine sx21.ok ?_
  unfold sx21
  exact fun w1 hg => ⟨_, rfl, rfl, hg⟩

theorem same_ok {a b : Option Addr} {n m c d : Nat} {l r : List CellV} {w : World} (hl : Reads w Enc.cell (a, n, c) l) (hr : Reads w Enc.cell (b, m, d) r) (hn : l.length ≤ 9223372036854775807) :
    CallsW Try.prog 14 [.slice a n c, .slice b m d] w (Rets fun v w' => v = .bool (decide (l = r)) ∧ Grew w w') := by
  refine sx14.ok ?_
  unfold sx14
  have hln : n = l.length := hl.2.1
  have hrn : m = r.length := hr.2.1
  refine ⟨fun h => ?_, fun h => ?_⟩
  · have : ¬ l = r := by rintro rfl; simp at h; omega
    exact ⟨_, rfl, by simp [this], Grew.refl _⟩
  have hnm : n = m := by simp at h; omega
  refine ⟨fun i w' => ∃ k : Nat, i = k ∧ k ≤ n ∧ l.take k = r.take k ∧ Grew w w', fun i _ => n - i.toNat, ⟨0, rfl, Nat.zero_le _, rfl, Grew.refl _⟩, ?_⟩
  rintro i w3 ⟨k, rfl, hk, ht, hg⟩
  refine ⟨fun h => ?_, fun h => ?_⟩
  · simp only [decide_eq_true_eq] at h
    obtain ⟨d1, x, rfl, hx, hcx⟩ := (hl.grew hg).at0 (k := k) (by omega)
    obtain ⟨d2, y, rfl, hy, hcy⟩ := (hr.grew hg).at0 (k := k) (by omega)
    refine ⟨by omega, x.key, x.ph, x.pb, x.ch, x.cb, x.batch, by simpa [CellV.vals, Enc.cell] using hcx, by omega, y.key, y.ph, y.pb, y.ch, y.cb, y.batch, by simpa [CellV.vals, Enc.cell] using hcy, !(x.eqb y), eqS_neq (by kernel_rfl) (by kernel_rfl), fun w19 hg19 => ?_⟩
    rw [CellV.eqb_iff]
    have hw : IntKind.i64.wrap ((k : Int) + 1) = ((k + 1 : Nat) : Int) := by rw [IntKind.wrap_i64]; omega
    rw [hw]
    refine ⟨fun h => ?_, fun h => ?_⟩
    · have hxy : ¬ x = y := by simpa using h
      have : ¬ l = r := by rintro rfl; rw [hx] at hy; cases hy; exact hxy rfl
      exact ⟨_, rfl, by simp [this], hg.trans hg19⟩
    · have hxy : x = y := by simpa using h
      exact ⟨⟨k + 1, rfl, by omega, by rw [take_snoc hx, take_snoc hy, ht, hxy], hg.trans hg19⟩, by show n - (((k + 1 : Nat) : Int)).toNat < n - ((k : Int)).toNat; omega⟩
  · simp only [decide_eq_false_iff_not] at h
    rw [List.take_of_length_le (by omega), List.take_of_length_le (by omega)] at ht
    exact ⟨_, rfl, by simp [ht], hg⟩
end Go.Proofs.Ytnbknhcpjggabaa
