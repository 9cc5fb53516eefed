import Derived.Test.YtcpkneemhfnanaaGreatProg
import Derived.Test.YtcpkneemhfnanaaGreatBase
import Derived.Test.YtcpkneemhfnanaaGreatSxO
import Derived.Test.YtcpkneemhfnanaaGreatSxR
import Derived.Test.YtcpkneemhfnanaaGreatFold
import Derived.Test.YtcpkneemhfnanaaGreatSxM
/- What mark's Rising hands back. Conditions: none. -/
namespace Go.Proofs.YtcpkneemhfnanaaGreat
open Go.Sx
set_option maxRecDepth 100000
set_option linter.unusedVariables false
set_option linter.unusedSimpArgs false
/- reprise/mark.Rising -/
def sx87 (keys : Option Addr) (keys_n keys_c : Nat) (R : Ending → World → Prop) (w : World) : Prop :=
  ∃ (I1 : Int → World → Prop) (m1 : Int → World → Nat), I1 0 w ∧ ∀ (n2 : Int) (w3 : World), I1 n2 w3 → (((decide (n2 < ((keys_n : Nat) : Int))) = true → withSome keys (fun d4 => (0 ≤ n2 ∧ n2 < (keys_n : Nat)) ∧ ∃ (n5 :
    Int), w3.cell? (Addr.add d4 (n2.toNat * 1)) = some (.int .u64 n5) ∧ (((decide (n2 > 0)) = true → withSome keys (fun d6 => (0 ≤ (IntKind.i64.wrap (n2 - 1)) ∧ (IntKind.i64.wrap (n2 - 1)) < (keys_n : Nat)) ∧ ∃ (n7 :
    Int), w3.cell? (Addr.add d6 ((IntKind.i64.wrap (n2 - 1)).toNat * 1)) = some (.int .u64 n7) ∧ (((decide (n5 ≤ n7)) = true → R (.returned (.bool false)) w3) ∧ ((decide (n5 ≤ n7)) = false → (I1 (IntKind.i64.wrap (n2 +
    1)) w3 ∧ m1 (IntKind.i64.wrap (n2 + 1)) w3 < m1 n2 w3))))) ∧ ((decide (n2 > 0)) = false → (I1 (IntKind.i64.wrap (n2 + 1)) w3 ∧ m1 (IntKind.i64.wrap (n2 + 1)) w3 < m1 n2 w3))))) ∧ ((decide (n2 < ((keys_n : Nat) :
    Int))) = false → R (.returned (.bool true)) w3))
theorem sx87.ok {keys : Option Addr} {keys_n keys_c : Nat} {R : Ending → World → Prop} {w : World} (h : sx87 keys keys_n keys_c R w) : CallsW Tryz.prog 87 [.slice keys keys_n keys_c] w R :=
  callsW_of mix Tryz.func87 (by kernel_rfl) (by kernel_rfl) (Eq.mpr (by kernel_rfl : denFn Tryz.prog { loops := [(2, { slots := [(7, .int .i64)], cells := [] })] } Tryz.f87 [.slice keys keys_n keys_c] R w = sx87 keys keys_n keys_c R w) h)


theorem KRising_ok {a : Option Addr} {n c : Nat} {l : List Int} {w : World} (hr : Reads w (Enc.int .u64) (a, n, c) l) (hl : l.length ≤ 9223372036854775806) : CallsW Tryz.prog 87 [.slice a n c] w (Rets fun v w' => v = .bool (risingK l) ∧ w' = w) := by
  refine sx87.ok ?_
  unfold sx87
  have hn : n = l.length := hr.2.1
  subst hn
  refine ⟨fun i w' => ∃ k : Nat, i = k ∧ k ≤ l.length ∧ (∀ (j : Nat) (x y : Int), j + 1 < k → l[j]? = some x → l[j + 1]? = some y → x < y) ∧ w' = w, fun i _ => l.length - i.toNat, ⟨0, rfl, Nat.zero_le _, fun j x y h => by omega, rfl⟩, ?_⟩
  rintro i w' ⟨k, rfl, hk, hlt, rfl⟩
  refine ⟨fun h => ?_, fun h => ?_⟩
  · simp only [decide_eq_true_eq] at h
    have hw1 : IntKind.i64.wrap ((k : Int) + 1) = ((k + 1 : Nat) : Int) := by rw [IntKind.wrap_i64]; omega
    obtain ⟨d, y, rfl, hy, hcy⟩ := hr.at0 (k := k) (by omega)
    rw [hw1]
    have hm : l.length - (((k + 1 : Nat) : Int)).toNat < l.length - ((k : Int)).toNat := by omega
    refine ⟨by omega, y, by simpa [Enc.int, CellsAt, Addr.add_zero'] using hcy, fun h0 => ?_, fun h0 => ?_⟩
    · simp only [decide_eq_true_eq] at h0
      have hw2 : IntKind.i64.wrap ((k : Int) - 1) = ((k - 1 : Nat) : Int) := by rw [IntKind.wrap_i64]; omega
      rw [hw2]
      obtain ⟨d', x, hd', hx, hcx⟩ := hr.at0 (k := k - 1) (by omega)
      cases hd'
      refine ⟨by omega, x, by simpa [Enc.int, CellsAt, Addr.add_zero'] using hcx, fun hle => ?_, fun hle => ?_⟩
      · simp only [decide_eq_true_eq] at hle
        have : risingK l = false := by
          apply Bool.eq_false_iff.2
          intro hr'
          have := (risingK_iff l).1 hr' (k - 1) x y hx (by rw [show k - 1 + 1 = k from by omega]; exact hy)
          omega
        exact ⟨_, rfl, by rw [this], rfl⟩
      · simp only [decide_eq_false_iff_not] at hle
        refine ⟨⟨k + 1, rfl, by omega, fun j u v hj hu hv => ?_, rfl⟩, hm⟩
        by_cases hjk : j + 1 < k
        · exact hlt j u v hjk hu hv
        · have : j = k - 1 := by omega
          subst this
          rw [show k - 1 + 1 = k from by omega] at hv
          rw [hx] at hu; rw [hy] at hv
          cases hu; cases hv; omega
    · simp only [decide_eq_false_iff_not] at h0
      exact ⟨⟨k + 1, rfl, by omega, fun j u v hj hu hv => by omega, rfl⟩, hm⟩
  · simp only [decide_eq_false_iff_not] at h
    have : risingK l = true := (risingK_iff l).2 fun i x y hx hy => by
      have : i + 1 < l.length := (List.getElem?_eq_some_iff.1 hy).1
      exact hlt i x y (by omega) hx hy
    exact ⟨_, rfl, by rw [this], rfl⟩
end Go.Proofs.YtcpkneemhfnanaaGreat
/- What msg's Sound hands back. Conditions: none. -/
namespace Go.Proofs.YtcpkneemhfnanaaGreat
open Go.Sx
set_option maxRecDepth 100000
set_option linter.unusedVariables false
set_option linter.unusedSimpArgs false
/- reprise/msg.of -/
def sx84 (kind : Int) (R : Ending → World → Prop) (w : World) : Prop :=
  (((kind == 1) = true → (((kind == 1) = true → R (.returned (.int .i64 1)) w) ∧ ((kind == 1) = false → (((kind == 4) = true → R (.returned (.int .i64 2)) w) ∧ ((kind == 4) = false → (((kind == 6) = true → R (.returned
    (.int .i64 3)) w) ∧ ((kind == 6) = false → (((kind == 5) = true → (((kind == 5) = true → R (.returned (.int .i64 4)) w) ∧ ((kind == 5) = false → R (.returned (.int .i64 0)) w))) ∧ ((kind == 5) = false → (((kind == 7)
    = true → R (.returned (.int .i64 4)) w) ∧ ((kind == 7) = false → R (.returned (.int .i64 0)) w))))))))))) ∧ ((kind == 1) = false → (((kind == 2) = true → (((kind == 2) = true → R (.returned (.int .i64 1)) w) ∧ ((kind
    == 2) = false → (((kind == 4) = true → R (.returned (.int .i64 2)) w) ∧ ((kind == 4) = false → (((kind == 6) = true → R (.returned (.int .i64 3)) w) ∧ ((kind == 6) = false → (((kind == 5) = true → (((kind == 5) = true
    → R (.returned (.int .i64 4)) w) ∧ ((kind == 5) = false → R (.returned (.int .i64 0)) w))) ∧ ((kind == 5) = false → (((kind == 7) = true → R (.returned (.int .i64 4)) w) ∧ ((kind == 7) = false → R (.returned (.int
    .i64 0)) w))))))))))) ∧ ((kind == 2) = false → (((kind == 3) = true → (((kind == 3) = true → R (.returned (.int .i64 1)) w) ∧ ((kind == 3) = false → (((kind == 4) = true → R (.returned (.int .i64 2)) w) ∧ ((kind == 4)
    = false → (((kind == 6) = true → R (.returned (.int .i64 3)) w) ∧ ((kind == 6) = false → (((kind == 5) = true → (((kind == 5) = true → R (.returned (.int .i64 4)) w) ∧ ((kind == 5) = false → R (.returned (.int .i64
    0)) w))) ∧ ((kind == 5) = false → (((kind == 7) = true → R (.returned (.int .i64 4)) w) ∧ ((kind == 7) = false → R (.returned (.int .i64 0)) w))))))))))) ∧ ((kind == 3) = false → (((kind == 8) = true → R (.returned
    (.int .i64 1)) w) ∧ ((kind == 8) = false → (((kind == 4) = true → R (.returned (.int .i64 2)) w) ∧ ((kind == 4) = false → (((kind == 6) = true → R (.returned (.int .i64 3)) w) ∧ ((kind == 6) = false → (((kind == 5) =
    true → (((kind == 5) = true → R (.returned (.int .i64 4)) w) ∧ ((kind == 5) = false → R (.returned (.int .i64 0)) w))) ∧ ((kind == 5) = false → (((kind == 7) = true → R (.returned (.int .i64 4)) w) ∧ ((kind == 7) =
    false → R (.returned (.int .i64 0)) w))))))))))))))))
theorem sx84.ok {kind : Int} {R : Ending → World → Prop} {w : World} (h : sx84 kind R w) : CallsW Tryz.prog 84 [.int .i64 kind] w R :=
  callsW_of mix Tryz.func84 (by kernel_rfl) (by kernel_rfl) (Eq.mpr (by kernel_rfl : denFn Tryz.prog {} Tryz.f84 [.int .i64 kind] R w = sx84 kind R w) h)

/- reprise/msg.within -/
def sx85 (low : Int) (n : Int) (high : Int) (R : Ending → World → Prop) (w : World) : Prop :=
  (((decide (low ≤ n)) = true → R (.returned (.bool (decide (n ≤ high)))) w) ∧ ((decide (low ≤ n)) = false → R (.returned (.bool false)) w))
theorem sx85.ok {low : Int} {n : Int} {high : Int} {R : Ending → World → Prop} {w : World} (h : sx85 low n high R w) : CallsW Tryz.prog 85 [.int .i64 low, .int .i64 n, .int .i64 high] w R :=
  callsW_of mix Tryz.func85 (by kernel_rfl) (by kernel_rfl) (Eq.mpr (by kernel_rfl : denFn Tryz.prog {} Tryz.f85 [.int .i64 low, .int .i64 n, .int .i64 high] R w = sx85 low n high R w) h)

/- reprise/msg.isEnds -/
def sx86 (list : Option Addr) (list_n list_c : Nat) (R : Ending → World → Prop) (w : World) : Prop :=
  ∃ (I1 : Int → World → Prop) (m1 : Int → World → Nat), I1 0 w ∧ ∀ (n2 : Int) (w3 : World), I1 n2 w3 → (((decide (n2 < ((list_n : Nat) : Int))) = true → withSome list (fun d4 => (0 ≤ n2 ∧ n2 < (list_n : Nat)) ∧ ∃ (n5 :
    Int), w3.cell? (Addr.add d4 (n2.toNat * 1)) = some (.int .i64 n5) ∧ CallsW Tryz.prog 85 [.int .i64 0, .int .i64 n5, .int .i64 256] w3 (RetR R fun u7 w6 => ∃ (b8 : Bool), u7 = .bool b8 ∧ (((!b8) = true → R (.returned
    (.bool false)) w6) ∧ ((!b8) = false → (I1 (IntKind.i64.wrap (n2 + 1)) w6 ∧ m1 (IntKind.i64.wrap (n2 + 1)) w6 < m1 n2 w3)))))) ∧ ((decide (n2 < ((list_n : Nat) : Int))) = false → CallsW Tryz.prog 85 [.int .i64 1, .int
    .i64 ((list_n : Nat) : Int), .int .i64 4] w3 (RetR R fun u11 w10 => ∃ (b12 : Bool), u11 = .bool b12 ∧ R (.returned (.bool b12)) w10)))
theorem sx86.ok {list : Option Addr} {list_n list_c : Nat} {R : Ending → World → Prop} {w : World} (h : sx86 list list_n list_c R w) : CallsW Tryz.prog 86 [.slice list list_n list_c] w R :=
  callsW_of mix Tryz.func86 (by kernel_rfl) (by kernel_rfl) (Eq.mpr (by kernel_rfl : denFn Tryz.prog { loops := [(2, { slots := [(7, .int .i64)], cells := [] })] } Tryz.f86 [.slice list list_n list_c] R w = sx86 list list_n list_c R w) h)

/- reprise/msg.Sound -/
def sx44 (d_0 : Int) (d_1 : Int) (d_2 : Int) (d_3 : Int) (d_4 : Int) (d_5 : Int) (d_6 : Option Addr) (d_6_n d_6_c : Nat) (d_7 : Option Addr) (d_7_n d_7_c : Nat) (d_8 : Option Addr) (d_8_n d_8_c : Nat) (R : Ending → World → Prop) (w : World) : Prop :=
  ∀ w1, Grew w w1 → CallsW Tryz.prog 84 [.int .i64 d_0] w1 (RetR R fun u3 w2 => ∃ (n4 : Int), u3 = .int .i64 n4 ∧ ∃ (J6 : Bool → World → Prop), ((((n4 == 0) = true → J6 true w2) ∧ ((n4 == 0) = false → CallsW Tryz.prog 85
    [.int .i64 0, .int .i64 d_1, .int .i64 8] w2 (RetR R fun u8 w7 => ∃ (b9 : Bool), u8 = .bool b9 ∧ (((!b9) = true → J6 true w7) ∧ ((!b9) = false → CallsW Tryz.prog 85 [.int .i64 0, .int .i64 d_2, .int .i64 8] w7 (RetR R
    fun u12 w11 => ∃ (b13 : Bool), u12 = .bool b13 ∧ J6 (!b13) w11))))))) ∧ ∀ (b15 : Bool) (w16 : World), J6 b15 w16 → ((b15 = true → R (.returned (.bool false)) w16) ∧ (b15 = false → ∃ (J17 : Bool → World → Prop),
    (CallsW Tryz.prog 85 [.int .i64 1, .int .i64 d_3, .int .i64 1099511627776] w16 (RetR R fun u19 w18 => ∃ (b20 : Bool), u19 = .bool b20 ∧ (((!b20) = true → J17 true w18) ∧ ((!b20) = false → CallsW Tryz.prog 85 [.int .i64
    1, .int .i64 d_4, .int .i64 1099511627776] w18 (RetR R fun u23 w22 => ∃ (b24 : Bool), u23 = .bool b24 ∧ J17 (!b24) w22))))) ∧ ∀ (b26 : Bool) (w27 : World), J17 b26 w27 → ((b26 = true → R (.returned (.bool false)) w27)
    ∧ (b26 = false → ∃ (J28 : Bool → World → Prop), (∃ (J29 : Bool → World → Prop), ((((n4 != 1) = true → J29 (decide (((d_6_n : Nat) : Int) > 0)) w27) ∧ ((n4 != 1) = false → J29 false w27))) ∧ ∀ (b30 : Bool) (w31 :
    World), J29 b30 w31 → ((b30 = true → J28 b30 w31) ∧ (b30 = false → ∃ (J32 : Bool → World → Prop), ((((n4 != 2) = true → J32 (decide (((d_7_n : Nat) : Int) > 0)) w31) ∧ ((n4 != 2) = false → J32 false w31))) ∧ ∀ (b33 :
    Bool) (w34 : World), J32 b33 w34 → ((b33 = true → J28 b33 w34) ∧ (b33 = false → ∃ (J35 : Bool → World → Prop), ((((n4 != 3) = true → J35 (decide (((d_8_n : Nat) : Int) > 0)) w34) ∧ ((n4 != 3) = false → J35 false
    w34))) ∧ ∀ (b36 : Bool) (w37 : World), J35 b36 w37 → ((b36 = true → J28 b36 w37) ∧ (b36 = false → (((n4 != 4) = true → J28 (d_5 != 0) w37) ∧ ((n4 != 4) = false → J28 false w37))))))))) ∧ ∀ (b38 : Bool) (w39 : World),
    J28 b38 w39 → ((b38 = true → R (.returned (.bool false)) w39) ∧ (b38 = false → (((n4 == 1) = true → CallsW Tryz.prog 86 [.slice d_6 d_6_n d_6_c] w39 (RetR R fun u41 w40 => ∃ (b42 : Bool), u41 = .bool b42 ∧ R (.returned
    (.bool b42)) w40)) ∧ ((n4 == 1) = false → (((n4 == 2) = true → (((decide (((d_7_n : Nat) : Int) ≤ 64)) = true → CallsW Tryz.prog 87 [.slice d_7 d_7_n d_7_c] w39 (RetR R fun u45 w44 => ∃ (b46 : Bool), u45 = .bool b46 ∧
    R (.returned (.bool b46)) w44)) ∧ ((decide (((d_7_n : Nat) : Int) ≤ 64)) = false → R (.returned (.bool false)) w39))) ∧ ((n4 == 2) = false → (((n4 == 3) = true → (((decide (((d_8_n : Nat) : Int) ≤ 64)) = true → CallsW
    Tryz.prog 66 [.slice d_8 d_8_n d_8_c] w39 (RetR R fun u49 w48 => ∃ (b50 : Bool), u49 = .bool b50 ∧ R (.returned (.bool b50)) w48)) ∧ ((decide (((d_8_n : Nat) : Int) ≤ 64)) = false → R (.returned (.bool false)) w39))) ∧
    ((n4 == 3) = false → CallsW Tryz.prog 85 [.int .i64 0, .int .i64 d_5, .int .i64 1000] w39 (RetR R fun u53 w52 => ∃ (b54 : Bool), u53 = .bool b54 ∧ R (.returned (.bool b54)) w52))))))))))))))
theorem sx44.ok {d_0 : Int} {d_1 : Int} {d_2 : Int} {d_3 : Int} {d_4 : Int} {d_5 : Int} {d_6 : Option Addr} {d_6_n d_6_c : Nat} {d_7 : Option Addr} {d_7_n d_7_c : Nat} {d_8 : Option Addr} {d_8_n d_8_c : Nat} {R : Ending → World → Prop} {w : World} (h : sx44 d_0 d_1 d_2 d_3 d_4 d_5 d_6 d_6_n d_6_c d_7 d_7_n d_7_c d_8 d_8_n d_8_c R w) : CallsW Tryz.prog 44 [.agg #[.int .i64 d_0, .int .i64 d_1, .int .i64 d_2, .int .i64 d_3, .int .i64 d_4, .int .i64 d_5, .slice d_6 d_6_n d_6_c, .slice d_7 d_7_n d_7_c, .slice d_8 d_8_n d_8_c]] w R :=
  callsW_of mix Tryz.func44 (by kernel_rfl) (by kernel_rfl) (Eq.mpr (by kernel_rfl : denFn Tryz.prog { locals := [1], cuts := [(3, { slots := [(7, .bool)], cells := [] }), (5, { slots := [(22, .bool)], cells := [] }), (7, { slots := [(33, .bool)], cells := [] }), (8, { slots := [(33, .bool)], cells := [] }), (9, { slots := [(33, .bool)], cells := [] }), (10, { slots := [(33, .bool)], cells := [] })] } Tryz.f44 [.agg #[.int .i64 d_0, .int .i64 d_1, .int .i64 d_2, .int .i64 d_3, .int .i64 d_4, .int .i64 d_5, .slice d_6 d_6_n d_6_c, .slice d_7 d_7_n d_7_c, .slice d_8 d_8_n d_8_c]] R w = sx44 d_0 d_1 d_2 d_3 d_4 d_5 d_6 d_6_n d_6_c d_7 d_7_n d_7_c d_8 d_8_n d_8_c R w) h)


theorem of_ok {k : Int} {w : World} : CallsW Tryz.prog 84 [.int .i64 k] w (Rets fun v w' => v = .int .i64 (fieldM k) ∧ w' = w) := by
  refine sx84.ok ?_
  unfold sx84
  have leaf : ∀ c : Int, c = fieldM k → Rets (fun v w' => v = Value.int .i64 (fieldM k) ∧ w' = w) (.returned (.int .i64 c)) w := fun c h => ⟨_, rfl, by rw [h], rfl⟩
  repeat' first
    | refine leaf _ ?_
    | refine And.intro (fun h => ?_) (fun h => ?_)
  all_goals simp only [beq_iff_eq, beq_eq_false_iff_ne, ne_eq] at *
  all_goals (unfold fieldM; repeat' split)
  all_goals omega

theorem within_ok {a n b : Int} {w : World} : CallsW Tryz.prog 85 [.int .i64 a, .int .i64 n, .int .i64 b] w (Rets fun v w' => v = .bool (decide (a ≤ n ∧ n ≤ b)) ∧ w' = w) := by
  refine sx85.ok ?_
  unfold sx85
  refine ⟨fun h => ⟨_, rfl, ?_, rfl⟩, fun h => ⟨_, rfl, ?_, rfl⟩⟩
  · simp only [decide_eq_true_eq] at h; simp [h]
  · simp only [decide_eq_false_iff_not] at h; simp [h]

theorem isEnds_ok {a : Option Addr} {n c : Nat} {l : List Int} {w : World} (hr : Reads w (Enc.int .i64) (a, n, c) l) (hl : l.length ≤ 9223372036854775806) :
    CallsW Tryz.prog 86 [.slice a n c] w (Rets fun v w' => v = .bool (endsB l && decide (1 ≤ l.length ∧ l.length ≤ 4)) ∧ w' = w) := by
  refine sx86.ok ?_
  unfold sx86
  have hn : n = l.length := hr.2.1
  subst hn
  refine ⟨fun i w' => ∃ k : Nat, i = k ∧ k ≤ l.length ∧ endsB (l.take k) = true ∧ w' = w, fun i _ => l.length - i.toNat, ⟨0, rfl, Nat.zero_le _, rfl, rfl⟩, ?_⟩
  rintro i w' ⟨k, rfl, hk, hlt, rfl⟩
  refine ⟨fun h => ?_, fun h => ?_⟩
  · simp only [decide_eq_true_eq] at h
    have hw1 : IntKind.i64.wrap ((k : Int) + 1) = ((k + 1 : Nat) : Int) := by rw [IntKind.wrap_i64]; omega
    obtain ⟨d, y, rfl, hy, hcy⟩ := hr.at0 (k := k) (by omega)
    rw [hw1]
    refine ⟨by omega, y, by simpa [Enc.int, CellsAt, Addr.add_zero'] using hcy, within_ok.use fun v w6 ⟨hv, hw⟩ => ?_⟩
    subst hv; subst hw
    refine ⟨_, rfl, fun hb => ?_, fun hb => ⟨⟨k + 1, rfl, by omega, ?_, rfl⟩, by show l.length - (((k + 1 : Nat) : Int)).toNat < l.length - ((k : Int)).toNat; omega⟩⟩
    · have hb' : ¬ (0 ≤ y ∧ y ≤ 256) := by rw [Bool.not_eq_true', decide_eq_false_iff_not] at hb; exact hb
      have : endsB l = false := by
        apply Bool.eq_false_iff.2
        intro he
        have := List.all_eq_true.1 he y (List.mem_of_getElem? hy)
        exact hb' (by simpa using this)
      exact ⟨_, rfl, by rw [this]; rfl, rfl⟩
    · have hb' : 0 ≤ y ∧ y ≤ 256 := by simpa using hb
      rw [take_snoc hy]
      unfold endsB at hlt ⊢
      rw [List.all_append, hlt]; simp [hb']
  · simp only [decide_eq_false_iff_not] at h
    rw [List.take_of_length_le (by omega)] at hlt
    refine within_ok.use fun v w6 ⟨hv, hw⟩ => ?_
    subst hv; subst hw
    refine ⟨_, rfl, _, rfl, ?_, rfl⟩
    rw [hlt, Bool.true_and]
    congr 1
    rw [decide_eq_decide]; omega

theorem PSound_ok {a : Option Addr} {n c : Nat} {l : List PairV} {w : World} (hr : Reads w Enc.pair (a, n, c) l) (hl : l.length ≤ 9223372036854775806) :
    CallsW Tryz.prog 66 [.slice a n c] w (Rets fun v w' => v = .bool (soundP l) ∧ Grew w w') := by
  refine sx66.ok ?_
  unfold sx66
  have hn : n = l.length := hr.2.1
  subst hn
  refine ⟨fun i w' => ∃ k : Nat, i = k ∧ k ≤ l.length ∧ (∀ (j : Nat) (x : PairV), j < k → l[j]? = some x → x.has = true) ∧ (∀ (j : Nat) (x y : PairV), j + 1 < k → l[j]? = some x → l[j + 1]? = some y → x.key < y.key) ∧ Grew w w', fun i _ => l.length - i.toNat, ⟨0, rfl, Nat.zero_le _, fun j x h => by omega, fun j x y h => by omega, Grew.refl _⟩, ?_⟩
  rintro i w' ⟨k, rfl, hk, hh, hlt, hg⟩
  refine ⟨fun h => ?_, fun h => ?_⟩
  · simp only [decide_eq_true_eq] at h
    have hw1 : IntKind.i64.wrap ((k : Int) + 1) = ((k + 1 : Nat) : Int) := by rw [IntKind.wrap_i64]; omega
    obtain ⟨d, y, rfl, hy, hcy⟩ := (hr.grew hg).at0 (k := k) (by omega)
    have hm : l.length - (((k + 1 : Nat) : Int)).toNat < l.length - ((k : Int)).toNat := by omega
    refine ⟨by omega, y.key, y.has, y.bits, by simpa [Enc.pair] using hcy, fun w8 hg8 => ⟨fun hb w9 hg9 => ?_, fun hb => ⟨fun h0 => ?_, fun h0 w13 hg13 => ?_⟩⟩⟩
    · have hb' : y.has = false := by simpa using hb
      have : soundP l = false := by
        apply Bool.eq_false_iff.2
        intro he
        have := ((soundP_iff l).1 he).1 k y hy
        rw [hb'] at this; cases this
      exact ⟨_, rfl, by rw [this], hg.trans (hg8.trans hg9)⟩
    · simp only [decide_eq_true_eq] at h0
      have hb' : y.has = true := by simpa using hb
      have hw2 : IntKind.i64.wrap ((k : Int) - 1) = ((k - 1 : Nat) : Int) := by rw [IntKind.wrap_i64]; omega
      rw [hw2, hw1]
      obtain ⟨d', x, hd', hx, hcx⟩ := ((hr.grew hg).grew hg8).at0 (k := k - 1) (by omega)
      cases hd'
      refine ⟨by omega, x.key, by have := hcx.1; simpa [Enc.pair, Addr.add_zero'] using this, fun w12 hg12 => ⟨fun hle => ?_, fun hle => ?_⟩⟩
      · simp only [decide_eq_true_eq] at hle
        have : soundP l = false := by
          apply Bool.eq_false_iff.2
          intro he
          have := ((soundP_iff l).1 he).2 (k - 1) x y hx (by rw [show k - 1 + 1 = k from by omega]; exact hy)
          omega
        exact ⟨_, rfl, by rw [this], hg.trans (hg8.trans hg12)⟩
      · simp only [decide_eq_false_iff_not] at hle
        refine ⟨⟨k + 1, rfl, by omega, fun j u hj hu => ?_, fun j u v hj hu hv => ?_, hg.trans (hg8.trans hg12)⟩, hm⟩
        · by_cases hjk : j < k
          · exact hh j u hjk hu
          · have : j = k := by omega
            subst this; rw [hy] at hu; cases hu; exact hb'
        · by_cases hjk : j + 1 < k
          · exact hlt j u v hjk hu hv
          · have : j = k - 1 := by omega
            subst this
            rw [show k - 1 + 1 = k from by omega] at hv
            rw [hx] at hu; rw [hy] at hv
            cases hu; cases hv; omega
    · simp only [decide_eq_false_iff_not] at h0
      have hb' : y.has = true := by simpa using hb
      rw [hw1]
      refine ⟨⟨k + 1, rfl, by omega, fun j u hj hu => ?_, fun j u v hj hu hv => by omega, hg.trans (hg8.trans hg13)⟩, hm⟩
      have : j = k := by omega
      subst this; rw [hy] at hu; cases hu; exact hb'
  · simp only [decide_eq_false_iff_not] at h
    have : soundP l = true := (soundP_iff l).2 ⟨fun i x hx => by
      have : i < l.length := (List.getElem?_eq_some_iff.1 hx).1
      exact hh i x (by omega) hx, fun i x y hx hy => by
      have : i + 1 < l.length := (List.getElem?_eq_some_iff.1 hy).1
      exact hlt i x y (by omega) hx hy⟩
    exact ⟨_, rfl, by rw [this], hg⟩

theorem MSound_ok {x : Msg} {w : World} (hx : x.At w) (h1 : x.c.ends.length ≤ 9223372036854775806) (h2 : x.c.keys.length ≤ 9223372036854775806) (h3 : x.c.pairs.length ≤ 9223372036854775806) :
    CallsW Tryz.prog 44 [x.val] w (Rets fun v w' => v = .bool (soundMsg x.c) ∧ Grew w w') := by
  refine sx44.ok ?_
  unfold sx44
  have he : x.e.2.1 = x.c.ends.length := hx.e.2.1
  have hk : x.k.2.1 = x.c.keys.length := hx.k.2.1
  have hp : x.p.2.1 = x.c.pairs.length := hx.p.2.1
  have hsi := soundMsg_iff x.c
  have no : ∀ w', Grew w w' → ¬ (soundMsg x.c = true) → Rets (fun v w' => v = Value.bool (soundMsg x.c) ∧ Grew w w') (.returned (.bool false)) w' := fun w' hg h => ⟨_, rfl, by rw [Bool.eq_false_iff.2 h], hg⟩
  have fin : ∀ b w', Grew w w' → (b = true ↔ soundMsg x.c = true) → Rets (fun v w' => v = Value.bool (soundMsg x.c) ∧ Grew w w') (.returned (.bool b)) w' := fun b w' hg h => ⟨_, rfl, by rw [Bool.eq_iff_iff.2 h], hg⟩
  intro w1 hg1
  refine of_ok.use fun v w2 ⟨hv, hw⟩ => ?_
  subst hv; subst hw
  obtain ⟨f, hf⟩ : ∃ f, f = fieldM x.c.kind := ⟨_, rfl⟩
  rw [← hf] at hsi ⊢
  refine ⟨f, rfl, fun b w' => Grew w w' ∧ (b = false ↔ (f ≠ 0 ∧ (0 ≤ x.c.frm ∧ x.c.frm ≤ 8) ∧ (0 ≤ x.c.to ∧ x.c.to ≤ 8))), ⟨fun h => ⟨hg1, ?_⟩, fun h => ?_⟩, ?_⟩
  · simp only [beq_iff_eq] at h; simp [h]
  · simp only [beq_eq_false_iff_ne, ne_eq] at h
    refine within_ok.use fun v w3 ⟨hv, hw⟩ => ?_
    subst hv; subst hw
    refine ⟨_, rfl, fun h2 => ⟨hg1, ?_⟩, fun h2 => ?_⟩
    · rw [Bool.not_eq_true', decide_eq_false_iff_not] at h2; simp only [Bool.true_eq_false, false_iff]; exact fun hh => h2 hh.2.1
    · rw [Bool.not_eq_false', decide_eq_true_eq] at h2
      refine within_ok.use fun v w4 ⟨hv, hw⟩ => ?_
      subst hv; subst hw
      refine ⟨_, rfl, hg1, ?_⟩
      rw [Bool.not_eq_false', decide_eq_true_eq]
      exact ⟨fun hh => ⟨h, h2, hh⟩, fun hh => hh.2.2⟩
  rintro b15 w16 ⟨hg16, hb15⟩
  refine ⟨fun h => no _ hg16 fun hs => ?_, fun h => ?_⟩
  · have := hsi.1 hs; rw [h] at hb15; have := hb15.2 ⟨this.1, this.2.1, this.2.2.1⟩; cases this
  obtain ⟨f0, ffr, fto⟩ := hb15.1 h
  refine ⟨fun b w' => Grew w w' ∧ (b = false ↔ ((1 ≤ x.c.batch ∧ x.c.batch ≤ 1099511627776) ∧ (1 ≤ x.c.att ∧ x.c.att ≤ 1099511627776))), ?_, ?_⟩
  · refine within_ok.use fun v w3 ⟨hv, hw⟩ => ?_
    subst hv; subst hw
    refine ⟨_, rfl, fun h2 => ⟨hg16, ?_⟩, fun h2 => ?_⟩
    · rw [Bool.not_eq_true', decide_eq_false_iff_not] at h2; simp only [Bool.true_eq_false, false_iff]; exact fun hh => h2 hh.1
    · rw [Bool.not_eq_false', decide_eq_true_eq] at h2
      refine within_ok.use fun v w4 ⟨hv, hw⟩ => ?_
      subst hv; subst hw
      refine ⟨_, rfl, hg16, ?_⟩
      rw [Bool.not_eq_false', decide_eq_true_eq]
      exact ⟨fun hh => ⟨h2, hh⟩, fun hh => hh.2⟩
  rintro b26 w27 ⟨hg27, hb26⟩
  refine ⟨fun h => no _ hg27 fun hs => ?_, fun h => ?_⟩
  · have := hsi.1 hs; rw [h] at hb26; have := hb26.2 ⟨this.2.2.2.1, this.2.2.2.2.1⟩; cases this
  obtain ⟨fba, fat⟩ := hb26.1 h
  refine ⟨fun b w' => Grew w w' ∧ (b = false ↔ ((f ≠ 1 → x.c.ends.length = 0) ∧ (f ≠ 2 → x.c.keys.length = 0) ∧ (f ≠ 3 → x.c.pairs.length = 0) ∧ (f ≠ 4 → x.c.code = 0))), ?_, ?_⟩
  · refine ⟨fun b w' => Grew w w' ∧ (b = false ↔ (f ≠ 1 → x.c.ends.length = 0)), ⟨fun h => ⟨hg27, ?_⟩, fun h => ⟨hg27, ?_⟩⟩, ?_⟩
    · simp only [bne_iff_ne, ne_eq] at h; rw [decide_eq_false_iff_not]; omega
    · simp only [bne_eq_false_iff_eq] at h; simp [h]
    rintro b30 w31 ⟨hg31, hb30⟩
    refine ⟨fun h => ⟨hg31, ?_⟩, fun h => ?_⟩
    · rw [h] at hb30 ⊢; simp only [Bool.true_eq_false, false_iff] at hb30 ⊢; exact fun hh => hb30 hh.1
    have k1 := hb30.1 h
    refine ⟨fun b w' => Grew w w' ∧ (b = false ↔ (f ≠ 2 → x.c.keys.length = 0)), ⟨fun h => ⟨hg31, ?_⟩, fun h => ⟨hg31, ?_⟩⟩, ?_⟩
    · simp only [bne_iff_ne, ne_eq] at h; rw [decide_eq_false_iff_not]; omega
    · simp only [bne_eq_false_iff_eq] at h; simp [h]
    rintro b33 w34 ⟨hg34, hb33⟩
    refine ⟨fun h => ⟨hg34, ?_⟩, fun h => ?_⟩
    · rw [h] at hb33 ⊢; simp only [Bool.true_eq_false, false_iff] at hb33 ⊢; exact fun hh => hb33 hh.2.1
    have k2 := hb33.1 h
    refine ⟨fun b w' => Grew w w' ∧ (b = false ↔ (f ≠ 3 → x.c.pairs.length = 0)), ⟨fun h => ⟨hg34, ?_⟩, fun h => ⟨hg34, ?_⟩⟩, ?_⟩
    · simp only [bne_iff_ne, ne_eq] at h; rw [decide_eq_false_iff_not]; omega
    · simp only [bne_eq_false_iff_eq] at h; simp [h]
    rintro b36 w37 ⟨hg37, hb36⟩
    refine ⟨fun h => ⟨hg37, ?_⟩, fun h => ?_⟩
    · rw [h] at hb36 ⊢; simp only [Bool.true_eq_false, false_iff] at hb36 ⊢; exact fun hh => hb36 hh.2.2.1
    have k3 := hb36.1 h
    refine ⟨fun h => ⟨hg37, ?_⟩, fun h => ⟨hg37, ?_⟩⟩
    · simp only [bne_iff_ne, ne_eq] at h
      rw [bne_eq_false_iff_eq]
      exact ⟨fun hh => ⟨k1, k2, k3, fun _ => hh⟩, fun hh => hh.2.2.2 h⟩
    · simp only [bne_eq_false_iff_eq] at h
      exact ⟨fun _ => ⟨k1, k2, k3, fun hh => absurd h hh⟩, fun _ => rfl⟩
  rintro b38 w39 ⟨hg39, hb38⟩
  refine ⟨fun h => no _ hg39 fun hs => ?_, fun h => ?_⟩
  · have := hsi.1 hs; rw [h] at hb38
    have := hb38.2 ⟨this.2.2.2.2.2.1, this.2.2.2.2.2.2.1, this.2.2.2.2.2.2.2.1, this.2.2.2.2.2.2.2.2.1⟩; cases this
  obtain ⟨k1, k2, k3, k4⟩ := hb38.1 h
  have hx39 := hx.grew hg39
  refine ⟨fun h1' => ?_, fun n1 => ⟨fun h2' => ⟨fun hle => ?_, fun hle => no _ hg39 fun hs => ?_⟩, fun n2 => ⟨fun h3' => ⟨fun hle => ?_, fun hle => no _ hg39 fun hs => ?_⟩, fun n3 => ?_⟩⟩⟩
  all_goals simp only [beq_iff_eq, beq_eq_false_iff_ne, ne_eq, decide_eq_true_eq, decide_eq_false_iff_not] at *
  · have z2 : x.c.keys = [] := List.eq_nil_of_length_eq_zero (k2 (by omega))
    have z3 : x.c.pairs = [] := List.eq_nil_of_length_eq_zero (k3 (by omega))
    have z4 := k4 (by omega)
    refine (isEnds_ok hx39.e h1).use fun v w40 ⟨hv, hw⟩ => ?_
    subst hv; subst hw
    refine ⟨_, rfl, fin _ _ hg39 ?_⟩
    rw [hsi, z2, z3, z4, h1']
    simp [ffr, fto, fba, fat, risingK, soundP, and_comm]
  · have z1 : x.c.ends = [] := List.eq_nil_of_length_eq_zero (k1 (by omega))
    have z3 : x.c.pairs = [] := List.eq_nil_of_length_eq_zero (k3 (by omega))
    have z4 := k4 (by omega)
    refine (KRising_ok hx39.k h2).use fun v w40 ⟨hv, hw⟩ => ?_
    subst hv; subst hw
    refine ⟨_, rfl, fin _ _ hg39 ?_⟩
    have hle' : x.c.keys.length ≤ 64 := by omega
    rw [hsi, z1, z3, z4, h2']
    simp [ffr, fto, fba, fat, endsB, soundP, hle']
  · have := (hsi.1 hs).2.2.2.2.2.2.2.2.2.2.2.1; omega
  · have z1 : x.c.ends = [] := List.eq_nil_of_length_eq_zero (k1 (by omega))
    have z2 : x.c.keys = [] := List.eq_nil_of_length_eq_zero (k2 (by omega))
    have z4 := k4 (by omega)
    refine (PSound_ok hx39.p h3).use fun v w40 ⟨hv, hw⟩ => ?_
    subst hv
    refine ⟨_, rfl, fin _ _ (hg39.trans hw) ?_⟩
    have hle' : x.c.pairs.length ≤ 64 := by omega
    rw [hsi, z1, z2, z4, h3']
    simp [ffr, fto, fba, fat, endsB, risingK, hle']
  · have := (hsi.1 hs).2.2.2.2.2.2.2.2.2.2.2.2.2.1; omega
  · have z1 : x.c.ends = [] := List.eq_nil_of_length_eq_zero (k1 (by omega))
    have z2 : x.c.keys = [] := List.eq_nil_of_length_eq_zero (k2 (by omega))
    have z3 : x.c.pairs = [] := List.eq_nil_of_length_eq_zero (k3 (by omega))
    refine within_ok.use fun v w40 ⟨hv, hw⟩ => ?_
    subst hv; subst hw
    refine ⟨_, rfl, fin _ _ hg39 ?_⟩
    have hf4 : f = 4 ∨ x.c.code = 0 := by by_cases h4 : f = 4; exact .inl h4; exact .inr (k4 h4)
    rw [hsi, z1, z2, z3]
    simp only [decide_eq_true_eq, List.length_nil]
    constructor
    · intro hc; exact ⟨f0, ffr, fto, fba, fat, by simp, by simp, by simp, k4, fun hh => absurd hh n1, rfl, by decide, rfl, by decide, rfl, hc⟩
    · intro hc; exact hc.2.2.2.2.2.2.2.2.2.2.2.2.2.2.2
end Go.Proofs.YtcpkneemhfnanaaGreat
