/- The reference's printing of numbers. Conditions: none. -/
import Derived.Test.YtbmmaibbiahkkaaGreatDoorProg
import Derived.Test.YtbmmaibbiahkkaaGreatDoorScrW
namespace Go.Proofs.YtbmmaibbiahkkaaGreatDoor
open Go.Sx
set_option maxRecDepth 100000
set_option linter.unusedVariables false
set_option linter.unusedSimpArgs false
def sx55h (v_0 : Bool) (v_1 : Int) (R : Ending → World → Prop) (w : World) : Prop :=
 ∀ w1, Grew w w1 → Aa Tryz.prog 77 [.int .i64 2] w1 (RetR R fun u3 w2 => ∃ b4, u3 = .bool b4 ∧ ifB (!b4) (R (.returned (.string (ByteArray.mk (#[]) : ByteArray))) w2) (Aa Tryz.prog 78 [.int .i64 2, .agg #[.bool v_0, .int .u64 v_1]] w2 (RetR R fun u7 w6 => ∃ b8 n9, u7 = .agg #[.bool b8, .int .u64 n9] ∧ ifB (!b8) (R (.returned (.string (ByteArray.mk (#[45]) : ByteArray))) w6) (ifB (decide (n9 ≥ 9223372036854775808)) (Aa Tryz.prog 79 [.int .u64 (IntKind.u64.wrap (0 - n9))] w6 (RetR R fun u12 w11 => ∃ s13, u12 = .string s13 ∧ ∃ s15, Ae Tryz.prog (eqS .add 9 (.const (.string (ByteArray.mk (#[45]) : ByteArray))) (.tmp 31) (.string (ByteArray.mk (#[45]) : ByteArray)) (.string s13)) (.string s15) ∧ R (.returned (.string s15)) w11)) (Aa Tryz.prog 79 [.int .u64 n9] w6 (RetR R fun u17 w16 => ∃ s18, u17 = .string s18 ∧ R (.returned (.string s18)) w16))))))
theorem sx55h.ok {v_0 : Bool} {v_1 : Int} {R : Ending → World → Prop} {w : World} (h : sx55h v_0 v_1 R w) : Aa Tryz.prog 55 [.int .i64 2, .agg #[.bool v_0, .int .u64 v_1]] w R :=
 okOf { locals := [3], known := [19, 24], pureTo := [32] } mix Tryz.func55 (by kernel_rfl) (by kernel_rfl) (by kernel_rfl) h
def sx55k (v_0 : Bool) (v_1 : Int) (R : Ending → World → Prop) (w : World) : Prop :=
 ∀ w1, Grew w w1 → Aa Tryz.prog 77 [.int .i64 1] w1 (RetR R fun u3 w2 => ∃ b4, u3 = .bool b4 ∧ ifB (!b4) (R (.returned (.string (ByteArray.mk (#[]) : ByteArray))) w2) (Aa Tryz.prog 78 [.int .i64 1, .agg #[.bool v_0, .int .u64 v_1]] w2 (RetR R fun u7 w6 => ∃ b8 n9, u7 = .agg #[.bool b8, .int .u64 n9] ∧ ifB (!b8) (R (.returned (.string (ByteArray.mk (#[45]) : ByteArray))) w6) (Aa Tryz.prog 79 [.int .u64 n9] w6 (RetR R fun u12 w11 => ∃ s13, u12 = .string s13 ∧ R (.returned (.string s13)) w11)))))
theorem sx55k.ok {v_0 : Bool} {v_1 : Int} {R : Ending → World → Prop} {w : World} (h : sx55k v_0 v_1 R w) : Aa Tryz.prog 55 [.int .i64 1, .agg #[.bool v_0, .int .u64 v_1]] w R :=
 okOf { locals := [3], known := [19] } mix Tryz.func55 (by kernel_rfl) (by kernel_rfl) (by kernel_rfl) h
def sx77 (kind : Int) (R : Ending → World → Prop) (w : World) : Prop :=
 ifB (decide (kind ≥ 1)) (R (.returned (.bool (decide (kind ≤ 4)))) w) (R (.returned (.bool false)) w)
theorem sx77.ok {kind : Int} {R : Ending → World → Prop} {w : World} (h : sx77 kind R w) : Aa Tryz.prog 77 [.int .i64 kind] w R :=
 okOf {} mix Tryz.func77 (by kernel_rfl) (by kernel_rfl) (by kernel_rfl) h
def sx78 (kind : Int) (v_0 : Bool) (v_1 : Int) (R : Ending → World → Prop) (w : World) : Prop :=
 ∀ w1, Grew w w1 → ∀ w2, Grew w1 w2 → Aa Tryz.prog 77 [.int .i64 kind] w2 (RetR R fun u4 w3 => ∃ b5, u4 = .bool b5 ∧ ifB (!b5) (R (.returned (.agg #[.bool false, .int .u64 0])) w3) (ifB (!v_0) (R (.returned (.agg #[.bool false, .int .u64 0])) w3) (ifB (decide (kind ≤ 2)) (R (.returned (.agg #[.bool v_0, .int .u64 v_1])) w3) (Aa Tryz.prog 67 [.int .u64 v_1] w3 (RetR R fun u8 w7 => ∃ x9, u8 = .float .f64 x9 ∧ Aa Tryz.prog 103 [.int .i64 kind, .float .f64 x9] w7 (RetR R fun u12 w11 => ∃ b13 n14, u12 = .agg #[.bool b13, .int .u64 n14] ∧ R (.returned (.agg #[.bool b13, .int .u64 n14])) w11))))))
theorem sx78.ok {kind : Int} {v_0 : Bool} {v_1 : Int} {R : Ending → World → Prop} {w : World} (h : sx78 kind v_0 v_1 R w) : Aa Tryz.prog 78 [.int .i64 kind, .agg #[.bool v_0, .int .u64 v_1]] w R :=
 okOf { locals := [3, 4] } mix Tryz.func78 (by kernel_rfl) (by kernel_rfl) (by kernel_rfl) h
def sx79 (n : Int) (R : Ending → World → Prop) (w : World) : Prop :=
 ∃ (I1 : Int → ByteArray → World → Prop) (m1 : Int → ByteArray → World → Nat), I1 n (ByteArray.mk (#[]) : ByteArray) w ∧ ∀ n2 s3 w4, I1 n2 s3 w4 → ifB (decide (n2 ≥ 10)) ((((10 : Int) = 0 → R (.panicked (Ef Tryz.prog)) w4) ∧ ((10 : Int) ≠ 0 → (((10 : Int) = 0 → R (.panicked (Ef Tryz.prog)) w4) ∧ ((10 : Int) ≠ 0 → ∀ n5 : Int, n5 = IntKind.u64.wrap ((Int.tmod n2 10) + 1) → (0 ≤ (n5 : Int) ∧ (n5 : Int) ≤ (ByteArray.size (ByteArray.mk (#[48, 49, 50, 51, 52, 53, 54, 55, 56, 57]) : ByteArray) : Nat)) ∧ (0 ≤ (Int.tmod n2 10 : Int) ∧ (Int.tmod n2 10 : Int) ≤ ((n5 : Int).toNat : Nat)) ∧ ∃ s6, Ae Tryz.prog (eqS .add 9 (.tmp 13) (.tmp 14) (.string (ByteArray.extract (ByteArray.mk (#[48, 49, 50, 51, 52, 53, 54, 55, 56, 57]) : ByteArray) (Int.tmod n2 10 : Int).toNat ((n5 : Int).toNat))) (.string s3)) (.string s6) ∧ (((10 : Int) = 0 → R (.panicked (Ef Tryz.prog)) w4) ∧ ((10 : Int) ≠ 0 → ∀ n7 : Int, n7 = IntKind.u64.wrap (Int.tdiv n2 10) → (I1 n7 s6 w4 ∧ m1 n7 s6 w4 < m1 n2 s3 w4)))))))) ((0 ≤ (IntKind.u64.wrap (n2 + 1) : Int) ∧ (IntKind.u64.wrap (n2 + 1) : Int) ≤ (ByteArray.size (ByteArray.mk (#[48, 49, 50, 51, 52, 53, 54, 55, 56, 57]) : ByteArray) : Nat)) ∧ (0 ≤ (n2 : Int) ∧ (n2 : Int) ≤ ((IntKind.u64.wrap (n2 + 1) : Int).toNat : Nat)) ∧ ∃ s8, Ae Tryz.prog (eqS .add 9 (.tmp 22) (.tmp 23) (.string (ByteArray.extract (ByteArray.mk (#[48, 49, 50, 51, 52, 53, 54, 55, 56, 57]) : ByteArray) (n2 : Int).toNat ((IntKind.u64.wrap (n2 + 1) : Int).toNat))) (.string s3)) (.string s8) ∧ R (.returned (.string s8)) w4)
theorem sx79.ok {n : Int} {R : Ending → World → Prop} {w : World} (h : sx79 n R w) : Aa Tryz.prog 79 [.int .u64 n] w R :=
 okOf { pureTo := [15, 24], named := [12, 17], loops := [(3, { slots := [(0, .int .u64), (4, .string)], cells := [] })] } mix Tryz.func79 (by kernel_rfl) (by kernel_rfl) (by kernel_rfl) h
def sx37 (n : Int) (R : Ending → World → Prop) (w : World) : Prop :=
 Aa Tryz.prog 55 [.int .i64 2, .agg #[.bool true, .int .u64 (IntKind.u64.wrap n)]] w (RetR R fun u2 w1 => ∃ s3, u2 = .string s3 ∧ R (.returned (.string s3)) w1)
theorem sx37.ok {n : Int} {R : Ending → World → Prop} {w : World} (h : sx37 n R w) : Aa Tryz.prog 37 [.int .i64 n] w R :=
 okOf {} mix Tryz.func37 (by kernel_rfl) (by kernel_rfl) (by kernel_rfl) h
def sx38 (x : Nat) (R : Ending → World → Prop) (w : World) : Prop :=
 Aa Tryz.prog 56 [.float .f64 x] w (RetR R fun u2 w1 => ∃ n3, u2 = .int .u64 n3 ∧ ∃ (I5 : ByteArray → Int → World → Prop) (m5 : ByteArray → Int → World → Nat), I5 (ByteArray.mk (#[]) : ByteArray) 0 w1 ∧ ∀ s6 n7 w8, I5 s6 n7 w8 → ifB (decide (n7 < 16)) (∀ n9 : Int, n9 = IntKind.i64.wrap ((4 : Int) * n7) → 0 ≤ (IntKind.u64.wrap n9) ∧ ∀ n10 : Int, n10 = Int.fdiv n3 (2 ^ (min (IntKind.u64.wrap n9).toNat (IntKind.bits .u64))) → (((16 : Int) = 0 → R (.panicked (Ef Tryz.prog)) w8) ∧ ((16 : Int) ≠ 0 → ∀ n11 : Int, n11 = IntKind.u64.wrap ((Int.tmod n10 16) + 1) → (0 ≤ (n11 : Int) ∧ (n11 : Int) ≤ (ByteArray.size (ByteArray.mk (#[48, 49, 50, 51, 52, 53, 54, 55, 56, 57, 97, 98, 99, 100, 101, 102]) : ByteArray) : Nat)) ∧ (0 ≤ (Int.tmod n10 16 : Int) ∧ (Int.tmod n10 16 : Int) ≤ ((n11 : Int).toNat : Nat)) ∧ ∃ s12, Ae Tryz.prog (eqS .add 9 (.tmp 24) (.tmp 25) (.string (ByteArray.extract (ByteArray.mk (#[48, 49, 50, 51, 52, 53, 54, 55, 56, 57, 97, 98, 99, 100, 101, 102]) : ByteArray) (Int.tmod n10 16 : Int).toNat ((n11 : Int).toNat))) (.string s6)) (.string s12) ∧ (I5 s12 (IntKind.i64.wrap (n7 + 1)) w8 ∧ m5 s12 (IntKind.i64.wrap (n7 + 1)) w8 < m5 s6 n7 w8)))) (R (.returned (.string s6)) w8))
theorem sx38.ok {x : Nat} {R : Ending → World → Prop} {w : World} (h : sx38 x R w) : Aa Tryz.prog 38 [.float .f64 x] w R :=
 okOf { pureTo := [26], named := [16, 18, 23], loops := [(5, { slots := [(5, .string), (6, .int .i64)], cells := [] })] } mix Tryz.func38 (by kernel_rfl) (by kernel_rfl) (by kernel_rfl) h
def sx56 (x : Nat) (R : Ending → World → Prop) (w : World) : Prop :=
 Aa Tryz.prog 48 [.float .f64 x] w (RetR R fun u2 w1 => ∃ n3, u2 = .int .u64 n3 ∧ R (.returned (.int .u64 n3)) w1)
theorem sx56.ok {x : Nat} {R : Ending → World → Prop} {w : World} (h : sx56 x R w) : Aa Tryz.prog 56 [.float .f64 x] w R :=
 okOf {} mix Tryz.func56 (by kernel_rfl) (by kernel_rfl) (by kernel_rfl) h
theorem Kw {x : Nat} {w : World} : Aa Tryz.prog 56 [.float .f64 x] w (Rets fun v w' => v = .int .u64 (x : Int) ∧ w' = w) := by
 refine sx56.ok ?_
 unfold sx56
 refine Ey.use fun v w1 ⟨hv, hw⟩ => ?_
 subst hv
 exact ⟨_, rfl, _, rfl, rfl, hw⟩
theorem Im {k : Int} (hk : k = 1 ∨ k = 2) {w : World} : Aa Tryz.prog 77 [.int .i64 k] w (Rets fun v w' => v = .bool true ∧ w' = w) := by
 refine sx77.ok ?_
 unfold sx77
 refine ⟨fun _ => ⟨_, rfl, ?_, rfl⟩, fun h => ?_⟩
 ·rw [decide_eq_true (by omega)]
 ·simp only [decide_eq_false_iff_not] at h; omega
theorem N8 {k n : Int} (hk : k = 1 ∨ k = 2) {w : World} : Aa Tryz.prog 78 [.int .i64 k, .agg #[.bool true, .int .u64 n]] w (Rets fun v w' => v = .agg #[.bool true, .int .u64 n] ∧ Grew w w') := by
 refine sx78.ok ?_
 unfold sx78
 intro w1 hg1 w2 hg2
 refine (Im hk).use fun v w3 ⟨hv, hw⟩ => ?_
 subst hv; subst hw
 refine ⟨_, rfl, fun h => (by cases h), fun _ => ⟨fun h => (by cases h), fun _ => ⟨fun _ => ⟨_, rfl, rfl, hg1.trans hg2⟩, fun h => ?_⟩⟩⟩
 simp only [decide_eq_false_iff_not] at h; omega
def Pe : L8 := [48, 49, 50, 51, 52, 53, 54, 55, 56, 57]
theorem Jd {d : Nat} (h : d < 10) : (bs Pe).extract d (d + 1) = bs [UInt8.ofNat (48 + d)] := by
 rw [Gs]
 have : ∀ i : Fin 10, (Pe.take (i.val + 1)).drop i.val = [UInt8.ofNat (48 + i.val)] := by decide +kernel
 rw [this ⟨d, h⟩]
theorem N9 {d : Nat} (h : d < 16) : (bs hexD).extract d (d + 1) = bs [hexc d] := by
 rw [Gs]
 have : ∀ i : Fin 16, (hexD.take (i.val + 1)).drop i.val = [hexc i.val] := by decide +kernel
 rw [this ⟨d, h⟩]
theorem Kx (n m : Nat) : Int.tmod (n : Int) (m : Int) = ((n % m : Nat) : Int) := rfl
theorem Oa (n m : Nat) : Int.tdiv (n : Int) (m : Int) = ((n / m : Nat) : Int) := rfl
theorem Io {n : Nat} {w : World} (h : n < 18446744073709551616) : Aa Tryz.prog 79 [.int .u64 (n : Int)] w (Rets fun v w' => v = .string (bs (Lib.decDigits n)) ∧ w' = w) := by
 refine sx79.ok ?_
 unfold sx79
 have hlen := Du h
 have wd : ∀ {d : Nat}, d < 10 → IntKind.u64.wrap ((d : Int) + 1) = ((d + 1 : Nat) : Int) := fun hd => by rw [IntKind.wrap_u64]; omega
 refine ⟨fun m s w' => ∃ (k : Nat) (tl : L8), m = k ∧ s = bs tl ∧ Lib.decDigits n = Lib.decDigits k ++ tl ∧ k < 18446744073709551616 ∧ w' = w, fun m _ _ => m.toNat, ⟨n, [], rfl, rfl, by simp, h, rfl⟩, ?_⟩
 rintro m s w4 ⟨k, tl, rfl, rfl, hd, hk, hw⟩
 have htl : tl.length ≤ 20 := by rw [hd, List.length_append] at hlen; omega
 have e10 : (10 : Int) = ((10 : Nat) : Int) := rfl
 refine ⟨fun hge => ?_, fun hlt => ?_⟩
 ·simp only [decide_eq_true_eq] at hge
  have hmod : k % 10 < 10 := Nat.mod_lt _ (by decide)
  rw [e10, Kx, Oa, wd hmod]
  refine ⟨fun h => (by cases h), fun _ => ⟨fun h => (by cases h), fun _ => ?_⟩⟩
  rintro n5 rfl
  refine ⟨⟨by omega, by show ((k % 10 + 1 : Nat) : Int) ≤ ((10 : Nat) : Int); omega⟩, ⟨by omega, by omega⟩, ?_⟩
  rw [Int.toNat_natCast, Int.toNat_natCast]
  have ec := Jd hmod
  change ByteArray.extract (ByteArray.mk #[48, 49, 50, 51, 52, 53, 54, 55, 56, 57]) (k % 10) (k % 10 + 1) = _ at ec
  rw [ec]
  refine ⟨_, Bc (by simp only [List.length_singleton]; omega), fun h => (by cases h), fun _ => ?_⟩
  rintro n7 rfl
  have e7 : IntKind.u64.wrap ((k / 10 : Nat) : Int) = ((k / 10 : Nat) : Int) := Kq (by omega)
  rw [e7]
  refine ⟨⟨k / 10, _, rfl, rfl, by rw [hd, Gc (by omega)]; simp, by omega, hw⟩, ?_⟩
  show ((k / 10 : Nat) : Int).toNat < ((k : Nat) : Int).toNat; omega
 ·simp only [decide_eq_false_iff_not] at hlt
  have hk10 : k < 10 := by omega
  rw [wd hk10]
  refine ⟨⟨by omega, by show ((k + 1 : Nat) : Int) ≤ ((10 : Nat) : Int); omega⟩, ⟨by omega, by omega⟩, ?_⟩
  rw [Int.toNat_natCast, Int.toNat_natCast]
  have ec := Jd hk10
  change ByteArray.extract (ByteArray.mk #[48, 49, 50, 51, 52, 53, 54, 55, 56, 57]) k (k + 1) = _ at ec
  rw [ec]
  exact ⟨_, Bc (by simp only [List.length_singleton]; omega), _, rfl, by rw [hd, C2 hk10], hw⟩
theorem Ob {n : Nat} {w : World} (h : n < 18446744073709551616) : Aa Tryz.prog 55 [.int .i64 1, .agg #[.bool true, .int .u64 (n : Int)]] w (Rets fun v w' => v = .string (bs (Lib.decDigits n)) ∧ Grew w w') := by
 refine sx55k.ok ?_
 unfold sx55k
 intro w1 hg1
 refine (Im (.inl rfl)).use fun v w2 ⟨hv, hw⟩ => ?_
 subst hv; subst hw
 refine ⟨_, rfl, fun h => (by cases h), fun _ => (N8 (.inl rfl)).use fun v w6 ⟨hv, hg6⟩ => ?_⟩
 subst hv
 refine ⟨_, _, rfl, fun h => (by cases h), fun _ => (Io h).use fun v w11 ⟨hv, hw⟩ => ?_⟩
 subst hv
 exact ⟨_, rfl, _, rfl, rfl, by rw [hw]; exact hg1.trans hg6⟩
theorem Cn {n : Int} {w : World} (h : -9223372036854775808 ≤ n ∧ n < 9223372036854775808) : Aa Tryz.prog 37 [.int .i64 n] w (Rets fun v w' => v = .string (bs (Lib.itoa n)) ∧ Grew w w') := by
 refine sx37.ok ?_
 unfold sx37
 have hT : Aa Tryz.prog 55 [.int .i64 2, .agg #[.bool true, .int .u64 (IntKind.u64.wrap n)]] w (Rets fun v w' => v = .string (bs (Lib.itoa n)) ∧ Grew w w') := by
  refine sx55h.ok ?_
  unfold sx55h
  intro w1 hg1
  refine (Im (.inr rfl)).use fun v w2 ⟨hv, hw⟩ => ?_
  subst hv; subst hw
  refine ⟨_, rfl, fun h => (by cases h), fun _ => (N8 (.inr rfl)).use fun v w6 ⟨hv, hg6⟩ => ?_⟩
  subst hv
  refine ⟨_, _, rfl, fun h => (by cases h), fun _ => ?_⟩
  by_cases hn : n < 0
  ·have e1 : IntKind.u64.wrap n = ((18446744073709551616 - n.natAbs : Nat) : Int) := by rw [IntKind.wrap_u64]; omega
   have e2 : IntKind.u64.wrap (0 - ((18446744073709551616 - n.natAbs : Nat) : Int)) = ((n.natAbs : Nat) : Int) := by rw [IntKind.wrap_u64]; omega
   rw [e1]
   refine ⟨fun _ => ?_, fun hlt => ?_⟩
   ·rw [e2]
    refine (Io (by omega)).use fun v w11 ⟨hv, hw⟩ => ?_
    subst hv
    have hl := Du (n := n.natAbs) (by omega)
    exact ⟨_, rfl, _, Bc (a := [45]) (by simp only [List.length_singleton]; omega), _, rfl, by rw [itoa_neg hn]; rfl, by rw [hw]; exact hg1.trans hg6⟩
   ·simp only [decide_eq_false_iff_not] at hlt; omega
  ·have e1 : IntKind.u64.wrap n = ((n.toNat : Nat) : Int) := by rw [IntKind.wrap_u64]; omega
   rw [e1]
   refine ⟨fun hge => ?_, fun _ => (Io (by omega)).use fun v w11 ⟨hv, hw⟩ => ?_⟩
   ·simp only [decide_eq_true_eq] at hge; omega
   subst hv
   exact ⟨_, rfl, _, rfl, by rw [Ev hn], by rw [hw]; exact hg1.trans hg6⟩
 refine hT.use fun v w1 ⟨hv, hg⟩ => ?_
 subst hv
 exact ⟨_, rfl, _, rfl, rfl, hg⟩
theorem L9 : ∀ (j x : Nat), hexK (j + 1) x = hexc (x / 16 ^ j % 16) :: hexK j x
 | 0, x => by simp [hexK]
 | j + 1, x => by
  have h1 : hexK (j + 1 + 1) x = hexK (j + 1) (x / 16) ++ [hexc (x % 16)] := rfl
  rw [h1, L9 j (x / 16), List.cons_append]
  have h2 : hexK j (x / 16) ++ [hexc (x % 16)] = hexK (j + 1) x := rfl
  rw [h2, Nat.div_div_eq_div_mul, Nat.pow_succ, Nat.mul_comm 16]
theorem Ma {x : Nat} {w : World} (hx : x < 18446744073709551616) : Aa Tryz.prog 38 [.float .f64 x] w (Rets fun v w' => v = .string (bs (hexK 16 x)) ∧ w' = w) := by
 refine sx38.ok ?_
 unfold sx38
 refine Kw.use fun v w1 ⟨hv, hw1⟩ => ?_
 subst hv
 refine ⟨_, rfl, fun s i w' => ∃ j : Nat, i = j ∧ j ≤ 16 ∧ s = bs (hexK j x) ∧ w' = w, fun _ i _ => 16 - i.toNat, ⟨0, rfl, by omega, rfl, hw1⟩, ?_⟩
 rintro s i w8 ⟨j, rfl, hj, rfl, hw⟩
 refine ⟨fun hlt => ?_, fun hge => ?_⟩
 ·simp only [decide_eq_true_eq] at hlt
  have hj16 : j < 16 := by omega
  rintro n9 rfl
  have e9 : IntKind.u64.wrap (IntKind.i64.wrap ((4 : Int) * j)) = ((4 * j : Nat) : Int) := by
   have : IntKind.i64.wrap ((4 : Int) * j) = ((4 * j : Nat) : Int) := by rw [IntKind.wrap_i64]; omega
   rw [this, IntKind.wrap_u64]; omega
  rw [e9]
  refine ⟨by omega, ?_⟩
  rintro n10 rfl
  have e10 : Int.fdiv (x : Int) (2 ^ (min (((4 * j : Nat) : Int)).toNat (IntKind.bits .u64))) = ((x / 16 ^ j : Nat) : Int) := by
   rw [Int.toNat_natCast, show min (4 * j) (IntKind.bits .u64) = 4 * j from Nat.min_eq_left (by show 4 * j ≤ 64; omega)]
   have : (2 : Int) ^ (4 * j) = ((16 ^ j : Nat) : Int) := by
    rw [Int.pow_mul]; simp
   rw [this, Int.fdiv_eq_ediv_of_nonneg _ (Int.natCast_nonneg _)]; rfl
  rw [e10]
  refine ⟨fun h => (by cases h), fun _ => ?_⟩
  have e16 : (16 : Int) = ((16 : Nat) : Int) := rfl
  have hmod : x / 16 ^ j % 16 < 16 := Nat.mod_lt _ (by decide)
  rw [e16, Kx]
  have e11 : IntKind.u64.wrap (((x / 16 ^ j % 16 : Nat) : Int) + 1) = ((x / 16 ^ j % 16 + 1 : Nat) : Int) := by rw [IntKind.wrap_u64]; omega
  rintro n11 rfl
  rw [e11]
  refine ⟨⟨by omega, by show ((x / 16 ^ j % 16 + 1 : Nat) : Int) ≤ ((16 : Nat) : Int); omega⟩, ⟨by omega, by omega⟩, ?_⟩
  rw [Int.toNat_natCast, Int.toNat_natCast]
  have ec := N9 hmod
  change ByteArray.extract (ByteArray.mk #[48, 49, 50, 51, 52, 53, 54, 55, 56, 57, 97, 98, 99, 100, 101, 102]) (x / 16 ^ j % 16) (x / 16 ^ j % 16 + 1) = _ at ec
  rw [ec]
  refine ⟨_, Bc (by rw [B3]; simp only [List.length_singleton]; omega), ?_⟩
  rw [Ch (by omega)]
  refine ⟨⟨j + 1, rfl, by omega, by rw [L9]; rfl, hw⟩, ?_⟩
  show 16 - (((j + 1 : Nat) : Int)).toNat < 16 - ((j : Nat) : Int).toNat; omega
 ·simp only [decide_eq_false_iff_not] at hge
  have : j = 16 := by omega
  subst this
  exact ⟨_, rfl, rfl, hw⟩
def sx57 (kind : Int) (R : Ending → World → Prop) (w : World) : Prop :=
 ∀ b1 w2, An w w2 b1 (.cells [.string (ByteArray.mk (#[]) : ByteArray), .string (ByteArray.mk (#[]) : ByteArray), .string (ByteArray.mk (#[]) : ByteArray), .string (ByteArray.mk (#[]) : ByteArray), .string (ByteArray.mk (#[]) : ByteArray), .string (ByteArray.mk (#[]) : ByteArray), .string (ByteArray.mk (#[]) : ByteArray), .string (ByteArray.mk (#[]) : ByteArray), .string (ByteArray.mk (#[]) : ByteArray), .string (ByteArray.mk (#[]) : ByteArray), .string (ByteArray.mk (#[]) : ByteArray)].toArray 138) → Ap w2 ⟨b1, 0, none⟩ 0 [.string (ByteArray.mk (#[112, 114, 111, 100, 117, 99, 101]) : ByteArray), .string (ByteArray.mk (#[115, 119, 105, 116, 99, 104]) : ByteArray), .string (ByteArray.mk (#[116, 105, 99, 107]) : ByteArray), .string (ByteArray.mk (#[100, 101, 108, 105, 118, 101, 114]) : ByteArray), .string (ByteArray.mk (#[100, 114, 111, 112]) : ByteArray), .string (ByteArray.mk (#[99, 111, 112, 121]) : ByteArray), .string (ByteArray.mk (#[99, 117, 116]) : ByteArray), .string (ByteArray.mk (#[99, 114, 97, 115, 104]) : ByteArray), .string (ByteArray.mk (#[114, 101, 115, 116, 97, 114, 116]) : ByteArray), .string (ByteArray.mk (#[113, 117, 101, 114, 121]) : ByteArray), .string (ByteArray.mk (#[114, 111, 117, 110, 100]) : ByteArray)] ∧ ∀ w3, w3 = setCells w2 ⟨b1, 0, none⟩ 0 [.string (ByteArray.mk (#[112, 114, 111, 100, 117, 99, 101]) : ByteArray), .string (ByteArray.mk (#[115, 119, 105, 116, 99, 104]) : ByteArray), .string (ByteArray.mk (#[116, 105, 99, 107]) : ByteArray), .string (ByteArray.mk (#[100, 101, 108, 105, 118, 101, 114]) : ByteArray), .string (ByteArray.mk (#[100, 114, 111, 112]) : ByteArray), .string (ByteArray.mk (#[99, 111, 112, 121]) : ByteArray), .string (ByteArray.mk (#[99, 117, 116]) : ByteArray), .string (ByteArray.mk (#[99, 114, 97, 115, 104]) : ByteArray), .string (ByteArray.mk (#[114, 101, 115, 116, 97, 114, 116]) : ByteArray), .string (ByteArray.mk (#[113, 117, 101, 114, 121]) : ByteArray), .string (ByteArray.mk (#[114, 111, 117, 110, 100]) : ByteArray)] → ifB (decide (kind < 1)) (R (.returned (.string (ByteArray.mk (#[]) : ByteArray))) w3) (ifB (decide (kind > 11)) (R (.returned (.string (ByteArray.mk (#[]) : ByteArray))) w3) (∀ n4 : Int, n4 = IntKind.i64.wrap (kind - 1) → (0 ≤ n4 ∧ n4 < (11 : Nat)) ∧ ∃ s5, w3.cell? (Addr.add (⟨b1, 0, none⟩ : Addr) (n4.toNat * 1)) = some (.string s5) ∧ R (.returned (.string s5)) w3))
theorem sx57.ok {kind : Int} {R : Ending → World → Prop} {w : World} (h : sx57 kind R w) : Aa Tryz.prog 57 [.int .i64 kind] w R :=
 okOf { named := [12] } mix Tryz.func57 (by kernel_rfl) (by kernel_rfl) (by kernel_rfl) h
def sx39 (d_0 d_1 d_2 d_3 : Int) (d_4 : Nat) (R : Ending → World → Prop) (w : World) : Prop :=
  ∀ w1, Grew w w1 → Aa Tryz.prog 57 [.int .i64 d_0] w1 (RetR R fun u3 w2 => ∃ s4, u3 = .string s4 ∧ ∃ b6, Ae Tryz.prog (eqS .eql 9 (.tmp 12) (.const (.string (ByteArray.mk (#[]) : ByteArray))) (.string s4) (.string (ByteArray.mk (#[]) : ByteArray))) (.bool b6) ∧ ifB b6 (R (.returned (.tuple #[.string (ByteArray.mk (#[]) : ByteArray), .int .i64 200])) w2) (Aa Tryz.prog 24 [.string s4] w2 (RetR R fun u8 w7 => ∃ s9 n10, u8 = .tuple #[.string s9, .int .i64 n10] ∧ ∃ (I12 : ByteArray → Int → Int → Int → Int → Int → Nat → World → Prop) (m12 : ByteArray → Int → Int → Int → Int → Int → Nat → World → Nat), I12 s4 0 d_0 d_1 d_2 d_3 d_4 w7 ∧ ∀ s13 n14 n15 n16 n17 n18 x19 w20, I12 s13 n14 n15 n16 n17 n18 x19 w20 → ifB (decide (n14 < ((ByteArray.size s9 : Nat) : Int))) (∃ (b21 : UInt8), (0 ≤ n14 ∧ (s9).data[n14.toNat]? = some b21) ∧ ifB ((b21.toNat : Int) == 110) (∃ s22, Ae Tryz.prog (eqS .add 9 (.tmp 31) (.const (.string (ByteArray.mk (#[32]) : ByteArray))) (.string s13) (.string (ByteArray.mk (#[32]) : ByteArray))) (.string s22) ∧ Aa Tryz.prog 37 [.int .i64 n16] w20 (RetR R fun u24 w23 => ∃ s25, u24 = .string s25 ∧ ∃ s27, Ae Tryz.prog (eqS .add 9 (.tmp 32) (.tmp 35) (.string s22) (.string s25)) (.string s27) ∧ (I12 s27 (IntKind.i64.wrap (n14 + 1)) n15 0 n17 n18 x19 w23 ∧ m12 s27 (IntKind.i64.wrap (n14 + 1)) n15 0 n17 n18 x19 w23 < m12 s13 n14 n15 n16 n17 n18 x19 w20))) (ifB ((b21.toNat : Int) == 107) (∃ s28, Ae Tryz.prog (eqS .add 9 (.tmp 40) (.const (.string (ByteArray.mk (#[32]) : ByteArray))) (.string s13) (.string (ByteArray.mk (#[32]) : ByteArray))) (.string s28) ∧ Aa Tryz.prog 37 [.int .i64 n17] w20 (RetR R fun u30 w29 => ∃ s31, u30 = .string s31 ∧ ∃ s33, Ae Tryz.prog (eqS .add 9 (.tmp 41) (.tmp 44) (.string s28) (.string s31)) (.string s33) ∧ (I12 s33 (IntKind.i64.wrap (n14 + 1)) n15 n16 0 n18 x19 w29 ∧ m12 s33 (IntKind.i64.wrap (n14 + 1)) n15 n16 0 n18 x19 w29 < m12 s13 n14 n15 n16 n17 n18 x19 w20))) (ifB ((b21.toNat : Int) == 117) (∃ s34, Ae Tryz.prog (eqS .add 9 (.tmp 49) (.const (.string (ByteArray.mk (#[32]) : ByteArray))) (.string s13) (.string (ByteArray.mk (#[32]) : ByteArray))) (.string s34) ∧ Aa Tryz.prog 55 [.int .i64 1, .agg #[.bool true, .int .u64 n18]] w20 (RetR R fun u36 w35 => ∃ s37, u36 = .string s37 ∧ ∃ s39, Ae Tryz.prog (eqS .add 9 (.tmp 50) (.tmp 55) (.string s34) (.string s37)) (.string s39) ∧ (I12 s39 (IntKind.i64.wrap (n14 + 1)) n15 n16 n17 0 x19 w35 ∧ m12 s39 (IntKind.i64.wrap (n14 + 1)) n15 n16 n17 0 x19 w35 < m12 s13 n14 n15 n16 n17 n18 x19 w20))) (ifB ((b21.toNat : Int) == 118) (∃ s40, Ae Tryz.prog (eqS .add 9 (.tmp 61) (.const (.string (ByteArray.mk (#[32]) : ByteArray))) (.string s13) (.string (ByteArray.mk (#[32]) : ByteArray))) (.string s40) ∧ Aa Tryz.prog 38 [.float .f64 x19] w20 (RetR R fun u42 w41 => ∃ s43, u42 = .string s43 ∧ ∃ s45, Ae Tryz.prog (eqS .add 9 (.tmp 62) (.tmp 66) (.string s40) (.string s43)) (.string s45) ∧ (I12 s45 (IntKind.i64.wrap (n14 + 1)) n15 n16 n17 n18 0
 w41 ∧ m12 s45 (IntKind.i64.wrap (n14 + 1)) n15 n16 n17 n18 0 w41 < m12 s13 n14 n15 n16 n17 n18 x19 w20))) ((I12 s13 (IntKind.i64.wrap (n14 + 1)) n15 n16 n17 n18 x19 w20 ∧ m12 s13 (IntKind.i64.wrap (n14 + 1)) n15 n16 n17 n18 x19 w20 < m12 s13 n14 n15 n16 n17 n18 x19 w20)))))) (ifB (n16 != 0) (R (.returned (.tuple #[.string (ByteArray.mk (#[]) : ByteArray), .int .i64 1])) w20) (ifB (n17 != 0) (R (.returned (.tuple #[.string (ByteArray.mk (#[]) : ByteArray), .int .i64 1])) w20) (ifB (n18 != 0) (R (.returned (.tuple #[.string (ByteArray.mk (#[]) : ByteArray), .int .i64 1])) w20) (Aa Tryz.prog 56 [.float .f64 x19] w20 (RetR R fun u47 w46 => ∃ n48, u47 = .int .u64 n48 ∧ ifB (n48 != 0) (R (.returned (.tuple #[.string (ByteArray.mk (#[]) : ByteArray), .int .i64 1])) w46) (R (.returned (.tuple #[.string s13, .int .i64 0])) w46)))))))))
theorem sx39.ok {d_0 d_1 d_2 d_3 : Int} {d_4 : Nat} {R : Ending → World → Prop} {w : World} (h : sx39 d_0 d_1 d_2 d_3 d_4 R w) : Aa Tryz.prog 39 [.agg #[.int .i64 d_0, .int .i64 d_1, .int .i64 d_2, .int .u64 d_3, .float .f64 d_4]] w R :=
 okOf { locals := [1], pureTo := [13, 32, 36, 41, 45, 50, 56, 62, 67], loops := [(7, { slots := [(7, .string), (8, .int .i64)], cells := [(1, 46, [.int .i64, .int .i64, .int .i64, .int .u64, .float .f64])] })] } mix Tryz.func39 (by kernel_rfl) (by kernel_rfl) (by kernel_rfl) h
def Fw : List Value := Cr.map fun x => .string (bs x.1)
theorem Mb {k : Int} {a b : L8} (h : Bh k = some (a, b)) : 1 ≤ k ∧ k ≤ 11 ∧ Fw[(k - 1).toNat]? = some (.string (bs a)) := by
 obtain ⟨-, h1, h2, -⟩ := C9 h
 unfold Bh at h
 rw [if_pos h1] at h
 exact ⟨h1, h2, by unfold Fw; rw [List.getElem?_map, h]; rfl⟩
theorem Lp {k : Int} (h : Bh k = none) : ¬ (1 ≤ k ∧ k ≤ 11) := by
 rintro ⟨h1, h2⟩
 unfold Bh at h
 rw [if_pos h1, List.getElem?_eq_none_iff] at h
 have : Cr.length = 11 := rfl
 omega
def Ky : Option (L8 × L8) → L8
 | some (a, _) => a
 | none => []
theorem Oc {k : Int} {w : World} (hk : -9223372036854775808 ≤ k ∧ k < 9223372036854775808) : Aa Tryz.prog 57 [.int .i64 k] w (Rets fun v w' => v = .string (bs (Ky (Bh k))) ∧ Grew w w') := by
 refine sx57.ok ?_
 unfold sx57
 intro b1 w2 hal
 obtain ⟨cs', h3, h4, h5, h6⟩ := Cy (vs := Fw) (o := 0) (i := 0) hal.at_
 refine ⟨C7 hal.at_ (by decide), ?_⟩
 rintro w3 rfl
 have hg : Grew w (setCells w2 ⟨b1, 0, none⟩ 0 Fw) := hal.grew.then_own h6 fun b hb => by subst hb; exact hal.new
 have no : ¬ (1 ≤ k ∧ k ≤ 11) → ∀ w', w' = setCells w2 ⟨b1, 0, none⟩ 0 Fw → Rets (fun v w' => v = .string (bs (Ky (Bh k))) ∧ Grew w w') (.returned (.string (ByteArray.mk #[]))) w' := fun h w' hw => by
  have : Bh k = none := by
   cases hh : Bh k with
   | none => rfl
   | some x => obtain ⟨a, b⟩ := x; obtain ⟨q1, q2, -⟩ := Mb hh; exact absurd ⟨q1, q2⟩ h
  rw [hw, this]; exact ⟨_, rfl, rfl, hg⟩
 refine ⟨fun h => no (fun e => ?_) _ rfl, fun h1 => ⟨fun h => no (fun e => ?_) _ rfl, fun h2 => ?_⟩⟩
 ·simp only [decide_eq_true_eq] at h; omega
 ·simp only [decide_eq_true_eq] at h; omega
 simp only [decide_eq_false_iff_not] at h1 h2
 rintro n4 rfl
 obtain ⟨⟨a, b⟩, hw⟩ : ∃ x, Bh k = some x := by
  cases hh : Bh k with
  | none => exact absurd ⟨by omega, by omega⟩ (Lp hh)
  | some x => exact ⟨x, rfl⟩
 have ek : IntKind.i64.wrap (k - 1) = k - 1 := by rw [IntKind.wrap_i64]; omega
 rw [ek]
 obtain ⟨-, -, hn⟩ := Mb hw
 refine ⟨⟨by omega, by omega⟩, bs a, ?_, ?_⟩
 ·rw [Bi, Nat.mul_one, Nat.zero_add]
  show (setCells w2 ⟨b1, 0, none⟩ 0 Fw).cell? _ = _
  rw [cell_of_block h3, Array.getElem?_toList, h5]
  have hl : Fw.length = 11 := rfl
  rw [if_pos ⟨by omega, by omega, by show (k - 1).toNat < 11; omega⟩]
  simpa using hn
 ·rw [hw]; exact ⟨_, rfl, rfl, hg⟩
end Go.Proofs.YtbmmaibbiahkkaaGreatDoor
