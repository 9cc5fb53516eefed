/- What package slices hands back at numbers: Grow, Concat, Index, Contains, Compact. Conditions: none. -/
import Derived.Test.YteakjjbajjkloaaProg
import Derived.Test.YteakjjbajjkloaaSortE_U
import Derived.Test.YteakjjbajjkloaaSxW
namespace Go.Proofs.Yteakjjbajjkloaa
open Go.Sx
set_option maxRecDepth 100000
set_option linter.unusedVariables false
set_option linter.unusedSimpArgs false
/- slices.Grow[[]uint64,uint64] -/
def sx48 (s : Option Addr) (s_n s_c : Nat) (n : Int) (R : Ending → World → Prop) (w : World) : Prop :=
  (((decide (n < 0)) = true → R (.panicked (panicOf (.iface 9 (.string (ByteArray.mk (#[99, 97, 110, 110, 111, 116, 32, 98, 101, 32, 110, 101, 103, 97, 116, 105, 118, 101]) : ByteArray))))) w) ∧ ((decide (n < 0)) = false →
    ∀ n1 : Int, n1 = IntKind.i64.wrap (((s_c : Nat) : Int) - ((s_n : Nat) : Int)) → (((decide ((IntKind.i64.wrap (n - n1)) > 0)) = true → (0 ≤ ((s_c : Nat) : Int) ∧ ((s_c : Nat) : Int) ≤ (s_c : Nat)) ∧ SemW Try.prog
    (Builtin.append_ #[22, 3] 22 #[.slice s (((s_c : Nat) : Int).toNat) s_c, .int .i64 (IntKind.i64.wrap (n - n1))]) (fun u3 w2 => ∃ (a4 : Option Addr) (l4 c4 : Nat), u3 = .slice a4 l4 c4 ∧ (0 ≤ ((s_n : Nat) : Int) ∧
    ((s_n : Nat) : Int) ≤ (c4 : Nat)) ∧ R (.returned (.slice a4 (((s_n : Nat) : Int).toNat) c4)) w2) w) ∧ ((decide ((IntKind.i64.wrap (n - n1)) > 0)) = false → R (.returned (.slice s s_n s_c)) w))))
theorem sx48.ok {s : Option Addr} {s_n s_c : Nat} {n : Int} {R : Ending → World → Prop} {w : World} (h : sx48 s s_n s_c n R w) : CallsW Try.prog 48 [.slice s s_n s_c, .int .i64 n] w R :=
  callsW_of mix Try.func48 (by kernel_rfl) (by kernel_rfl) (Eq.mpr (by kernel_rfl : denFn Try.prog { sem := [22], named := [13] } Try.f48 [.slice s s_n s_c, .int .i64 n] R w = sx48 s s_n s_c n R w) h)

/- slices.Concat[[]uint64,uint64] -/
def sx39 (slices : Option Addr) (slices_n slices_c : Nat) (R : Ending → World → Prop) (w : World) : Prop :=
  ∃ (I1 : Int → Int → World → Prop) (m1 : Int → Int → World → Nat), I1 0 0 w ∧ ∀ (n2 : Int) (n3 : Int) (w4 : World), I1 n2 n3 w4 → (((decide (n3 < ((slices_n : Nat) : Int))) = true → withSome slices (fun d5 => (0 ≤ n3 ∧ n3
    < (slices_n : Nat)) ∧ ∃ (a6 : Option Addr) (l6 c6 : Nat), w4.cell? (Addr.add d5 (n3.toNat * 1)) = some (.slice a6 l6 c6) ∧ ∀ n7 : Int, n7 = IntKind.i64.wrap (n2 + ((l6 : Nat) : Int)) → (((decide (n7 < 0)) = true → R
    (.panicked (panicOf (.iface 9 (.string (ByteArray.mk (#[108, 101, 110, 32, 111, 117, 116, 32, 111, 102, 32, 114, 97, 110, 103, 101]) : ByteArray))))) w4) ∧ ((decide (n7 < 0)) = false → (I1 n7 (IntKind.i64.wrap (n3 +
    1)) w4 ∧ m1 n7 (IntKind.i64.wrap (n3 + 1)) w4 < m1 n2 n3 w4))))) ∧ ((decide (n3 < ((slices_n : Nat) : Int))) = false → CallsW Try.prog 48 [.slice none 0 0, .int .i64 n2] w4 (RetR R fun u9 w8 => ∃ (a10 : Option Addr)
    (l10 c10 : Nat), u9 = .slice a10 l10 c10 ∧ ∃ (I12 : Option Addr → Nat → Nat → Int → World → Prop) (m12 : Option Addr → Nat → Nat → Int → World → Nat), I12 a10 l10 c10 0 w8 ∧ ∀ (a13 : Option Addr) (l13 c13 : Nat) (n14
    : Int) (w15 : World), I12 a13 l13 c13 n14 w15 → (((decide (n14 < ((slices_n : Nat) : Int))) = true → withSome slices (fun d16 => (0 ≤ n14 ∧ n14 < (slices_n : Nat)) ∧ ∃ (a17 : Option Addr) (l17 c17 : Nat), w15.cell?
    (Addr.add d16 (n14.toNat * 1)) = some (.slice a17 l17 c17) ∧ SemW Try.prog (Builtin.append_ #[22, 22] 22 #[.slice a13 l13 c13, .slice a17 l17 c17]) (fun u19 w18 => ∃ (a20 : Option Addr) (l20 c20 : Nat), u19 = .slice
    a20 l20 c20 ∧ (I12 a20 l20 c20 (IntKind.i64.wrap (n14 + 1)) w18 ∧ m12 a20 l20 c20 (IntKind.i64.wrap (n14 + 1)) w18 < m12 a13 l13 c13 n14 w15)) w15)) ∧ ((decide (n14 < ((slices_n : Nat) : Int))) = false → R (.returned
    (.slice a13 l13 c13)) w15)))))
theorem sx39.ok {slices : Option Addr} {slices_n slices_c : Nat} {R : Ending → World → Prop} {w : World} (h : sx39 slices slices_n slices_c R w) : CallsW Try.prog 39 [.slice slices slices_n slices_c] w R :=
  callsW_of mix Try.func39 (by kernel_rfl) (by kernel_rfl) (Eq.mpr (by kernel_rfl : denFn Try.prog { sem := [33], named := [18], loops := [(3, { slots := [(3, .int .i64), (11, .int .i64)], cells := [] }), (11, { slots := [(6, .slice), (27, .int .i64)], cells := [] })] } Try.f39 [.slice slices slices_n slices_c] R w = sx39 slices slices_n slices_c R w) h)

/- slices.Index[[]uint64,uint64] -/
def sx51 (s : Option Addr) (s_n s_c : Nat) (v : Int) (R : Ending → World → Prop) (w : World) : Prop :=
  ∃ (I1 : Int → World → Prop) (m1 : Int → World → Nat), I1 0 w ∧ ∀ (n2 : Int) (w3 : World), I1 n2 w3 → (((decide (n2 < ((s_n : Nat) : Int))) = true → withSome s (fun d4 => (0 ≤ n2 ∧ n2 < (s_n : Nat)) ∧ ∃ (n5 : Int),
    w3.cell? (Addr.add d4 (n2.toNat * 1)) = some (.int .u64 n5) ∧ (((v == n5) = true → R (.returned (.int .i64 n2)) w3) ∧ ((v == n5) = false → (I1 (IntKind.i64.wrap (n2 + 1)) w3 ∧ m1 (IntKind.i64.wrap (n2 + 1)) w3 < m1 n2
    w3))))) ∧ ((decide (n2 < ((s_n : Nat) : Int))) = false → R (.returned (.int .i64 (-1))) w3))
theorem sx51.ok {s : Option Addr} {s_n s_c : Nat} {v : Int} {R : Ending → World → Prop} {w : World} (h : sx51 s s_n s_c v R w) : CallsW Try.prog 51 [.slice s s_n s_c, .int .u64 v] w R :=
  callsW_of mix Try.func51 (by kernel_rfl) (by kernel_rfl) (Eq.mpr (by kernel_rfl : denFn Try.prog { loops := [(2, { slots := [(8, .int .i64)], cells := [] })] } Try.f51 [.slice s s_n s_c, .int .u64 v] R w = sx51 s s_n s_c v R w) h)

/- slices.Contains[[]uint64,uint64] -/
def sx43 (s : Option Addr) (s_n s_c : Nat) (v : Int) (R : Ending → World → Prop) (w : World) : Prop :=
  CallsW Try.prog 51 [.slice s s_n s_c, .int .u64 v] w (RetR R fun u2 w1 => ∃ (n3 : Int), u2 = .int .i64 n3 ∧ R (.returned (.bool (decide (n3 ≥ 0)))) w1)
theorem sx43.ok {s : Option Addr} {s_n s_c : Nat} {v : Int} {R : Ending → World → Prop} {w : World} (h : sx43 s s_n s_c v R w) : CallsW Try.prog 43 [.slice s s_n s_c, .int .u64 v] w R :=
  callsW_of mix Try.func43 (by kernel_rfl) (by kernel_rfl) (Eq.mpr (by kernel_rfl : denFn Try.prog {} Try.f43 [.slice s s_n s_c, .int .u64 v] R w = sx43 s s_n s_c v R w) h)

/- slices.Compact[[]uint64,uint64] -/
def sx41 (s : Option Addr) (s_n s_c : Nat) (R : Ending → World → Prop) (w : World) : Prop :=
  (((decide (((s_n : Nat) : Int) < 2)) = true → R (.returned (.slice s s_n s_c)) w) ∧ ((decide (((s_n : Nat) : Int) < 2)) = false → ∃ (I1 : Int → World → Prop) (m1 : Int → World → Nat), I1 1 w ∧ ∀ (n2 : Int) (w3 : World),
    I1 n2 w3 → (((decide (n2 < ((s_n : Nat) : Int))) = true → withSome s (fun d4 => (0 ≤ n2 ∧ n2 < (s_n : Nat)) ∧ ∃ (n5 : Int), w3.cell? (Addr.add d4 (n2.toNat * 1)) = some (.int .u64 n5) ∧ withSome s (fun d6 => (0 ≤
    (IntKind.i64.wrap (n2 - 1)) ∧ (IntKind.i64.wrap (n2 - 1)) < (s_n : Nat)) ∧ ∃ (n7 : Int), w3.cell? (Addr.add d6 ((IntKind.i64.wrap (n2 - 1)).toNat * 1)) = some (.int .u64 n7) ∧ ∀ w8, Grew w3 w8 → (((n5 == n7) = true →
    (0 ≤ n2 ∧ n2 ≤ (s_n : Nat)) ∧ ∃ (I9 : Int → Int → World → Prop) (m9 : Int → Int → World → Nat), I9 n2 1 w8 ∧ ∀ (n10 : Int) (n11 : Int) (w12 : World), I9 n10 n11 w12 → (((decide (n11 < ((s_n - n2.toNat : Nat) : Int)))
    = true → withSome (if s_c = n2.toNat then s else Option.map (fun x => Addr.add x (n2.toNat * 1)) s) (fun d13 => (0 ≤ n11 ∧ n11 < (s_n - n2.toNat : Nat)) ∧ ∃ (n14 : Int), w12.cell? (Addr.add d13 (n11.toNat * 1)) = some
    (.int .u64 n14) ∧ withSome (if s_c = n2.toNat then s else Option.map (fun x => Addr.add x (n2.toNat * 1)) s) (fun d15 => (0 ≤ (IntKind.i64.wrap (n11 - 1)) ∧ (IntKind.i64.wrap (n11 - 1)) < (s_n - n2.toNat : Nat)) ∧ ∃
    (n16 : Int), w12.cell? (Addr.add d15 ((IntKind.i64.wrap (n11 - 1)).toNat * 1)) = some (.int .u64 n16) ∧ ∀ w17, Grew w12 w17 → (((n14 != n16) = true → withSome (if s_c = n2.toNat then s else Option.map (fun x =>
    Addr.add x (n2.toNat * 1)) s) (fun d18 => (0 ≤ n11 ∧ n11 < (s_n - n2.toNat : Nat)) ∧ ∃ (n19 : Int), w17.cell? (Addr.add d18 (n11.toNat * 1)) = some (.int .u64 n19) ∧ withSome s (fun d20 => (0 ≤ n10 ∧ n10 < (s_n :
    Nat)) ∧ RoomAt w17 (Addr.add d20 (n10.toNat * 1)) 0 [.int .u64 n19] ∧ ∀ w21, w21 = setCells w17 (Addr.add d20 (n10.toNat * 1)) 0 [.int .u64 n19] → (I9 (IntKind.i64.wrap (n10 + 1)) (IntKind.i64.wrap (n11 + 1)) w21 ∧ m9
    (IntKind.i64.wrap (n10 + 1)) (IntKind.i64.wrap (n11 + 1)) w21 < m9 n10 n11 w12)))) ∧ ((n14 != n16) = false → (I9 n10 (IntKind.i64.wrap (n11 + 1)) w17 ∧ m9 n10 (IntKind.i64.wrap (n11 + 1)) w17 < m9 n10 n11 w12)))))) ∧
    ((decide (n11 < ((s_n - n2.toNat : Nat) : Int))) = false → (0 ≤ n10 ∧ n10 ≤ (s_n : Nat)) ∧ SemW Try.prog (Builtin.clear_ #[22] 0 #[.slice (if s_c = n10.toNat then s else Option.map (fun x => Addr.add x (n10.toNat *
    1)) s) (s_n - n10.toNat) (s_c - n10.toNat)]) (fun u23 w22 => u23 = .tuple #[] ∧ (0 ≤ n10 ∧ n10 ≤ (s_c : Nat)) ∧ R (.returned (.slice s n10.toNat s_c)) w22) w12))) ∧ ((n5 == n7) = false → (I1 (IntKind.i64.wrap (n2 +
    1)) w8 ∧ m1 (IntKind.i64.wrap (n2 + 1)) w8 < m1 n2 w3)))))) ∧ ((decide (n2 < ((s_n : Nat) : Int))) = false → R (.returned (.slice s s_n s_c)) w3))))
theorem sx41.ok {s : Option Addr} {s_n s_c : Nat} {R : Ending → World → Prop} {w : World} (h : sx41 s s_n s_c R w) : CallsW Try.prog 41 [.slice s s_n s_c] w R :=
  callsW_of mix Try.func41 (by kernel_rfl) (by kernel_rfl) (Eq.mpr (by kernel_rfl : denFn Try.prog { loops := [(9, { slots := [(3, .int .i64), (5, .int .i64)], cells := [] }), (1004, { slots := [(3, .int .i64)], cells := [] })] } Try.f41 [.slice s s_n s_c] R w = sx41 s s_n s_c R w) h)


theorem en_U : ElemOk Try.prog 22 38 (Enc.int .u64).sz 8 := ElemOk.mk' (z := .int .u64 0) (by kernel_rfl) (by kernel_rfl) (by kernel_rfl)
theorem zn_U : (Try.prog.info? 38).map (fun i => (i.zero, i.size, i.bytes)) = some (some (.int .u64 0), (Enc.int .u64).sz, 8) := by kernel_rfl

theorem Grow_U_ok {m : Nat} {w : World} (hm : m ≤ 1099511627776) : CallsW Try.prog 48 [.slice none 0 0, .int .i64 m] w (Rets (Fresh w 38 (Enc.int .u64) [])) := by
  refine sx48.ok ?_
  unfold sx48
  refine ⟨fun h => by simp at h; omega, fun _ => ?_⟩
  have hw : ∀ n1 : Int, n1 = IntKind.i64.wrap (((0 : Nat) : Int) - ((0 : Nat) : Int)) → IntKind.i64.wrap ((m : Int) - n1) = m := by
    rintro n1 rfl
    simp only [IntKind.wrap_i64]; omega
  intro n1 h1
  rw [hw n1 h1]
  refine ⟨fun hpos => ⟨by omega, ?_⟩, fun hz => ?_⟩
  · simp only [decide_eq_true_eq] at hpos
    refine append_zeros (E := Enc.int .u64) (B := w.heap.size) (e := 38) (bytes := 8) (kn := .i64) (n := 0) (c := 0) (l := []) (x := 0) (z := .int .u64 0) (by kernel_rfl) (by kernel_rfl) (by kernel_rfl) rfl (Own.nil _ _ _ _) (by omega) (by simp [maxLen]; omega) (by omega) ?_
    intro b c' w' hb ho hg
    have ho0 := ho.take (k := 0) (Nat.zero_le _)
    exact ⟨_, _, _, rfl, ⟨by omega, by omega⟩, _, rfl, _, _, _, rfl, by simpa using ho0.base hb, hg⟩
  · exact ⟨_, rfl, none, 0, 0, rfl, Own.nil _ _ _ _, Grew.refl _⟩

theorem Concat_U_ok {s : Option Addr} {n c : Nat} {ps : List (Option Addr × Nat × Nat)} {ls : List (List Int)} {w : World} (hs : Sl w s Enc.slice ps) (hn : n = ps.length) (hll : ls.length = ps.length)
    (hl : ∀ (k : Nat) (p : Option Addr × Nat × Nat) (l : List Int), ps[k]? = some p → ls[k]? = some l → Reads w (Enc.int .u64) p l) (hsum : ls.flatten.length ≤ 1099511627776) (hn63 : n < 1099511627776) :
    CallsW Try.prog 39 [.slice s n c] w (Rets (Fresh w 38 (Enc.int .u64) ls.flatten)) := by
  refine sx39.ok ?_
  unfold sx39
  subst hn
  have hpart : ∀ k, k ≤ ls.length → (ls.take k).flatten.length ≤ ls.flatten.length := fun k _ => by
    conv => rhs; rw [← List.take_append_drop k ls, List.flatten_append, List.length_append]
    omega
  have hstep : ∀ (k : Nat) (l : List Int), ls[k]? = some l → (ls.take (k + 1)).flatten = (ls.take k).flatten ++ l := fun k l h => by rw [take_snoc h]; simp
  refine ⟨fun m i w' => ∃ k : Nat, i = k ∧ k ≤ ps.length ∧ m = (ls.take k).flatten.length ∧ w' = w, fun _ i _ => ps.length - i.toNat, ⟨0, rfl, Nat.zero_le _, by simp, rfl⟩, ?_⟩
  rintro m i w' ⟨k, rfl, hk, rfl, rfl⟩
  refine ⟨fun hlt => ?_, fun hge => ?_⟩
  · simp only [decide_eq_true_eq] at hlt
    obtain ⟨d, p, rfl, hp, hc⟩ := hs.at_ (n := k) (by omega) hlt
    simp only [Int.toNat_natCast] at hp
    obtain ⟨l, hlk⟩ : ∃ l, ls[k]? = some l := ⟨ls[k]'(by omega), by simp⟩
    have hr := hl k p l hp hlk
    have h1 := hstep k l hlk
    have h2 := hpart (k + 1) (by omega)
    rw [h1, List.length_append] at h2
    refine ⟨by omega, p.1, p.2.1, p.2.2, by simpa [CellsAt, Enc.slice, Addr.add_zero'] using hc.1, ?_⟩
    rintro n7 rfl
    have hw : IntKind.i64.wrap (((ls.take k).flatten.length : Int) + (p.2.1 : Int)) = ((ls.take (k + 1)).flatten.length : Int) := by rw [h1, List.length_append, hr.2.1, IntKind.wrap_i64]; omega
    have hk1 : IntKind.i64.wrap ((k : Int) + 1) = ((k + 1 : Nat) : Int) := by rw [IntKind.wrap_i64]; omega
    rw [hw, hk1]
    refine ⟨fun hneg => by simp at hneg; omega, fun _ => ⟨⟨k + 1, rfl, by omega, rfl, rfl⟩, ?_⟩⟩
    show ps.length - (((k + 1 : Nat) : Int)).toNat < ps.length - ((k : Int)).toNat
    omega
  · simp only [decide_eq_false_iff_not] at hge
    have hkk : k = ls.length := by omega
    subst hkk
    rw [List.take_length]
    refine (Grow_U_ok hsum).use fun v w8 ⟨a, n0, c0, hv, ho, hg⟩ => ?_
    subst hv
    refine ⟨a, n0, c0, rfl, fun a1 n1 c1 i w9 => ∃ j : Nat, i = j ∧ j ≤ ps.length ∧ Own w9 w'.heap.size 38 (Enc.int .u64) a1 n1 c1 (ls.take j).flatten ∧ Grew w' w9, fun _ _ _ i _ => ps.length - i.toNat, ⟨0, rfl, Nat.zero_le _, by simpa using ho, hg⟩, ?_⟩
    rintro a1 n1 c1 i w9 ⟨j, rfl, hj, ho9, hg9⟩
    refine ⟨fun hlt => ?_, fun hge => ?_⟩
    · simp only [decide_eq_true_eq] at hlt
      obtain ⟨d, p, rfl, hp, hc⟩ := (hs.grew hg9).at_ (n := j) (by omega) hlt
      simp only [Int.toNat_natCast] at hp
      obtain ⟨l, hlk⟩ : ∃ l, ls[j]? = some l := ⟨ls[j]'(by omega), by simp⟩
      have hr := (hl j p l hp hlk).grew hg9
      have h1 := hstep j l hlk
      have h2 := hpart (j + 1) (by omega)
      rw [h1, List.length_append] at h2
      have hk1 : IntKind.i64.wrap ((j : Int) + 1) = ((j + 1 : Nat) : Int) := by rw [IntKind.wrap_i64]; omega
      refine ⟨by omega, p.1, p.2.1, p.2.2, by simpa [CellsAt, Enc.slice, Addr.add_zero'] using hc.1, ?_⟩
      refine append_sl en_U ho9 hr.1 hr.2.1 hr.2.2.1 hg9.size (by simp only [maxLen]; omega) (by omega) ?_
      rintro v w10 ⟨a2, n2, c2, rfl, ho2, hu2, hb2⟩
      rw [hk1]
      refine ⟨a2, n2, c2, rfl, ⟨j + 1, rfl, by omega, by rw [h1]; exact ho2, hg9.then_own hu2 fun b hb => (ho9.blk hb).1⟩, ?_⟩
      show ps.length - (((j + 1 : Nat) : Int)).toNat < ps.length - ((j : Int)).toNat
      omega
    · simp only [decide_eq_false_iff_not] at hge
      have hjj : j = ls.length := by omega
      subst hjj
      rw [List.take_length] at ho9
      exact ⟨_, rfl, a1, n1, c1, rfl, ho9, hg9⟩



theorem Index_U_ok {a : Option Addr} {n c : Nat} {l : List Int} {x : Int} {w : World} (hr : Reads w (Enc.int .u64) (a, n, c) l) (hl : l.length ≤ 9223372036854775806) :
    CallsW Try.prog 51 [.slice a n c, .int .u64 x] w (Rets fun v w' => w' = w ∧ ((v = .int .i64 (-1) ∧ x ∉ l) ∨ ∃ i : Nat, v = .int .i64 i ∧ x ∈ l)) := by
  refine sx51.ok ?_
  unfold sx51
  have hn : n = l.length := hr.2.1
  subst hn
  refine ⟨fun i w' => ∃ k : Nat, i = k ∧ k ≤ l.length ∧ (∀ y ∈ l.take k, x ≠ y) ∧ w' = w, fun i _ => l.length - i.toNat, ⟨0, rfl, Nat.zero_le _, by simp, rfl⟩, ?_⟩
  rintro i w' ⟨k, rfl, hk, hno, rfl⟩
  refine ⟨fun hlt => ?_, fun hge => ?_⟩
  · simp only [decide_eq_true_eq] at hlt
    obtain ⟨d, y, rfl, hy, hc⟩ := hr.at0 (k := k) (by omega)
    have hw : IntKind.i64.wrap ((k : Int) + 1) = ((k + 1 : Nat) : Int) := by rw [IntKind.wrap_i64]; omega
    rw [hw]
    refine ⟨by omega, y, by simpa [Enc.int, CellsAt, Addr.add_zero'] using hc, fun he => ?_, fun hne => ?_⟩
    · have : x = y := by simpa using he
      subst this
      exact ⟨_, rfl, rfl, .inr ⟨k, rfl, List.mem_of_getElem? hy⟩⟩
    · have hne' : x ≠ y := by simpa using hne
      refine ⟨⟨k + 1, rfl, by omega, fun z hz => ?_, rfl⟩, by show l.length - (((k + 1 : Nat) : Int)).toNat < l.length - ((k : Int)).toNat; omega⟩
      rw [take_snoc hy] at hz
      rcases List.mem_append.1 hz with hz | hz
      · exact hno z hz
      · simp only [List.mem_singleton] at hz; subst hz; exact hne'
  · simp only [decide_eq_false_iff_not] at hge
    have hkk : k = l.length := by omega
    subst hkk
    rw [List.take_length] at hno
    exact ⟨_, rfl, rfl, .inl ⟨rfl, fun hm => hno x hm rfl⟩⟩
theorem Contains_U_ok {a : Option Addr} {n c : Nat} {l : List Int} {x : Int} {w : World} (hr : Reads w (Enc.int .u64) (a, n, c) l) (hl : l.length ≤ 9223372036854775806) :
    CallsW Try.prog 43 [.slice a n c, .int .u64 x] w (Rets fun v w' => w' = w ∧ v = .bool (decide (x ∈ l))) := by
  refine sx43.ok ?_
  unfold sx43
  refine (Index_U_ok hr hl).use fun v w1 ⟨hw, hv⟩ => ?_
  subst hw
  rcases hv with ⟨rfl, hno⟩ | ⟨i, rfl, hm⟩
  · exact ⟨_, rfl, _, rfl, rfl, by simp [hno]⟩
  · exact ⟨_, rfl, _, rfl, rfl, by simp [hm]⟩

theorem Compact_U_ok {B : Nat} {a : Option Addr} {n c : Nat} {l : List Int} {w : World} (ho : Own w B 38 (Enc.int .u64) a n c l) (hl : l.length < 9223372036854775806) :
    CallsW Try.prog 41 [.slice a n c] w (Rets fun v w' => ∃ n', v = .slice a n' c ∧ Own w' B 38 (Enc.int .u64) a n' c (dedupL l) ∧ Upd (Blk a) w w') := by
  refine sx41.ok ?_
  unfold sx41
  have hn : n = l.length := ho.len
  subst hn
  have hle := ho.le
  -- as long as no two beside one another are the same, nothing is left out
  have hid : ∀ k : Nat, k ≤ l.length → (∀ (j : Nat) (x y : Int), j + 1 < k → l[j]? = some x → l[j + 1]? = some y → x ≠ y) → dedupL (l.take k) = l.take k := by
    intro k
    induction k with
    | zero => intro _ _; simp [dedupL]
    | succ k ih =>
      intro hk hne
      have hkl : k < l.length := by omega
      rw [take_snoc (List.getElem?_eq_getElem hkl), dedupL_snoc, ih (by omega) fun j x y hj => hne j x y (by omega)]
      unfold dedupStep
      rw [if_neg]
      intro hlast
      cases k with
      | zero => simp at hlast
      | succ k =>
        rw [List.getLast?_eq_getElem?, List.length_take, Nat.min_eq_left (by omega), List.getElem?_take, if_pos (by omega)] at hlast
        exact hne k _ _ (by omega) (by simpa using hlast) (List.getElem?_eq_getElem hkl) rfl
  refine ⟨fun h => ?_, fun h => ?_⟩
  · simp only [decide_eq_true_eq] at h
    have := hid l.length (Nat.le_refl _) fun j x y hj _ _ => by omega
    rw [List.take_length] at this
    exact ⟨_, rfl, _, rfl, by rw [this]; exact ho, Upd.refl _ _⟩
  simp only [decide_eq_false_iff_not] at h
  refine ⟨fun i w' => ∃ k : Nat, i = k ∧ 1 ≤ k ∧ k ≤ l.length ∧ (∀ (j : Nat) (x y : Int), j + 1 < k → l[j]? = some x → l[j + 1]? = some y → x ≠ y) ∧ Grew w w', fun i _ => l.length - i.toNat, ⟨1, rfl, Nat.le_refl _, by omega, fun j x y hj => by omega, Grew.refl _⟩, ?_⟩
  rintro i w3 ⟨k, rfl, hk1, hk, hne, hg3⟩
  have ho3 := ho.grew hg3
  refine ⟨fun hlt => ?_, fun hge => ?_⟩
  rotate_left
  · simp only [decide_eq_false_iff_not] at hge
    have hkk : k = l.length := by omega
    subst hkk
    have := hid l.length (Nat.le_refl _) hne
    rw [List.take_length] at this
    exact ⟨_, rfl, _, rfl, by rw [this]; exact ho3, hg3.upd⟩
  simp only [decide_eq_true_eq] at hlt
  have hw1 : IntKind.i64.wrap ((k : Int) + 1) = ((k + 1 : Nat) : Int) := by rw [IntKind.wrap_i64]; omega
  have hw2 : IntKind.i64.wrap ((k : Int) - 1) = ((k - 1 : Nat) : Int) := by rw [IntKind.wrap_i64]; omega
  rw [hw1, hw2]
  obtain ⟨d, y, had, hy, hcy⟩ := ho3.reads.at0 (k := k) (by omega)
  obtain rfl : a = some d := had
  obtain ⟨d', x, hd', hx, hcx⟩ := ho3.reads.at0 (k := k - 1) (by omega)
  cases hd'
  refine ⟨by omega, y, by simpa [Enc.int, CellsAt, Addr.add_zero'] using hcy, by omega, x, by simpa [Enc.int, CellsAt, Addr.add_zero'] using hcx, fun w8 hg8 => ⟨fun he => ⟨by omega, ?_⟩, fun he => ?_⟩⟩
  rotate_left
  · have hne' : y ≠ x := by simpa using he
    refine ⟨⟨k + 1, rfl, by omega, by omega, fun j u v hj hu hv => ?_, hg3.trans hg8⟩, by show l.length - (((k + 1 : Nat) : Int)).toNat < l.length - ((k : Int)).toNat; omega⟩
    by_cases hjk : j + 1 < k
    · exact hne j u v hjk hu hv
    · have : j = k - 1 := by omega
      subst this
      rw [show k - 1 + 1 = k from by omega] at hv
      rw [hx] at hu; rw [hy] at hv
      cases hu; cases hv; exact fun e => hne' e.symm
  have hyx : y = x := by simpa using he
  have hidk := hid k (by omega) hne
  have hck : c ≠ k := by omega
  simp only [Int.toNat_natCast]
  rw [if_neg hck]
  refine ⟨fun i j w' => ∃ (q p : Nat) (d2 : List Int), i = p ∧ j = q ∧ 1 ≤ q ∧ k + q ≤ l.length ∧ p < k + q ∧ p = (dedupL (l.take (k + q))).length ∧ Own w' B 38 (Enc.int .u64) (some d) l.length c d2 ∧ d2.take p = dedupL (l.take (k + q)) ∧ d2.drop p = l.drop p ∧ Upd (Blk (some d)) w w', fun _ j _ => l.length - j.toNat,
    ⟨1, k, l, rfl, rfl, Nat.le_refl _, by omega, by omega, ?_, ho3.grew hg8, ?_, rfl, (hg3.trans hg8).upd⟩, ?_⟩
  · rw [take_snoc hy, dedupL_snoc, hidk, dedupStep, if_pos, List.length_take, Nat.min_eq_left (by omega)]
    rw [List.getLast?_eq_getElem?, List.length_take, Nat.min_eq_left (by omega), List.getElem?_take, if_pos (by omega), hx, hyx]
  · rw [take_snoc hy, dedupL_snoc, hidk, dedupStep, if_pos]
    rw [List.getLast?_eq_getElem?, List.length_take, Nat.min_eq_left (by omega), List.getElem?_take, if_pos (by omega), hx, hyx]
  rintro i j w12 ⟨q, p, d2, rfl, rfl, hq1, hql, hpq, hpl, ho12, ht, hd, hu12⟩
  have hl2 : d2.length = l.length := by have := ho12.len; omega
  refine ⟨fun hlt2 => ?_, fun hge2 => ?_⟩
  · simp only [decide_eq_true_eq] at hlt2
    have hw3 : IntKind.i64.wrap ((q : Int) + 1) = ((q + 1 : Nat) : Int) := by rw [IntKind.wrap_i64]; omega
    have hw4 : IntKind.i64.wrap ((q : Int) - 1) = ((q - 1 : Nat) : Int) := by rw [IntKind.wrap_i64]; omega
    have hw5 : IntKind.i64.wrap ((p : Int) + 1) = ((p + 1 : Nat) : Int) := by rw [IntKind.wrap_i64]; omega
    rw [hw3, hw4, hw5]
    have hread : ∀ j, p ≤ j → d2[j]? = l[j]? := fun j hj => by
      have h1 : (d2.drop p)[j - p]? = (l.drop p)[j - p]? := by rw [hd]
      rw [List.getElem?_drop, List.getElem?_drop] at h1
      rwa [show p + (j - p) = j from by omega] at h1
    have hcell : ∀ (w' : World) (j : Nat) (z : Int), Own w' B 38 (Enc.int .u64) (some d) l.length c d2 → p ≤ k + j → l[k + j]? = some z → w'.cell? ((d.add (k * 1)).add (j * 1)) = some (.int .u64 z) := by
      intro w' j z ho' hj hz
      obtain ⟨d3, z', hd3, hz', hcz⟩ := ho'.reads.at0 (k := k + j) (by have := (List.getElem?_eq_some_iff.1 hz).1; omega)
      cases hd3
      rw [hread _ hj, hz] at hz'; cases hz'
      have : (d.add (k * 1)).add (j * 1) = d.add ((k + j) * 1) := by rw [Addr.add_add]; congr 1; omega
      rw [this]
      simpa [Enc.int, CellsAt, Addr.add_zero'] using hcz
    obtain ⟨u, hu⟩ : ∃ u, l[k + q]? = some u := ⟨l[k + q]'(by omega), List.getElem?_eq_getElem (by omega)⟩
    obtain ⟨v, hv⟩ : ∃ v, l[k + (q - 1)]? = some v := ⟨l[k + (q - 1)]'(by omega), List.getElem?_eq_getElem (by omega)⟩
    have hlast : (dedupL (l.take (k + q))).getLast? = some v := by
      rw [dedupL_last, List.getLast?_eq_getElem?, List.length_take, Nat.min_eq_left (by omega), List.getElem?_take, if_pos (by omega), show k + q - 1 = k + (q - 1) from by omega, hv]
    have hstep : dedupL (l.take (k + (q + 1))) = if v = u then dedupL (l.take (k + q)) else dedupL (l.take (k + q)) ++ [u] := by
      rw [show k + (q + 1) = (k + q) + 1 from by omega, take_snoc hu, dedupL_snoc, dedupStep, hlast]
      by_cases hvu : v = u <;> simp [hvu]
    refine ⟨by omega, u, hcell w12 q u ho12 (by omega) hu, by omega, v, hcell w12 (q - 1) v ho12 (by omega) hv, fun w17 hg17 => ⟨fun hne2 => ?_, fun heq2 => ?_⟩⟩
    · have hne3 : v ≠ u := by have : u ≠ v := by simpa using hne2
                              exact fun e => this e.symm
      have ho17 := ho12.grew hg17
      obtain ⟨d', hd', hroom, hset, hus⟩ := ho17.set (i := p) (by omega) u
      cases hd'
      refine ⟨by omega, u, hcell w17 q u ho17 (by omega) hu, by omega, by simpa [Enc.int] using hroom, ?_⟩
      rintro w21 rfl
      have hlen : (dedupL (l.take (k + (q + 1)))).length = p + 1 := by rw [hstep, if_neg hne3, List.length_append, ← hpl]; rfl
      refine ⟨⟨q + 1, p + 1, d2.set p u, rfl, rfl, by omega, by omega, by omega, hlen.symm, by simpa [Enc.int] using hset, ?_, ?_, by simpa [Enc.int] using (hu12.then_grew hg17).trans hus⟩, by show l.length - (((q + 1 : Nat) : Int)).toNat < l.length - ((q : Int)).toNat; omega⟩
      · have hky : (d2.set p u)[p]? = some u := by rw [List.getElem?_set_self (by omega)]
        rw [take_snoc hky, List.take_set_of_le (Nat.le_refl _), ht, hstep, if_neg hne3]
      · rw [List.drop_set_of_lt (by omega), ← List.drop_drop, hd, List.drop_drop]
    · have heq3 : v = u := by have : u = v := by simpa using heq2
                              exact this.symm
      have hstep' := hstep
      rw [if_pos heq3] at hstep'
      exact ⟨⟨q + 1, p, d2, rfl, rfl, by omega, by omega, by omega, by rw [hstep']; exact hpl, ho12.grew hg17, by rw [hstep']; exact ht, hd, hu12.then_grew hg17⟩, by show l.length - (((q + 1 : Nat) : Int)).toNat < l.length - ((q : Int)).toNat; omega⟩
  · simp only [decide_eq_false_iff_not] at hge2
    have hql2 : k + q = l.length := by omega
    rw [hql2, List.take_length] at ht hpl
    refine ⟨by omega, ?_⟩
    rcases ho12.row with ⟨h1, -⟩ | ⟨g, cs, hgg, hBg, hrow, -, h5, h6, h7, h8⟩
    · cases h1
    cases hgg
    have h7' : cs.length = c * 1 := h7
    have h8' : cs.take (l.length * 1) = d2.flatMap (Enc.int .u64).f := h8
    refine clear_into (x := (0 : Int)) (o := p * 1) (by kernel_rfl) zn_U rfl hrow (fun _ => ?_) ?_ ?_
    · rw [Int.toNat_natCast, cut_addr (sz := 1), if_neg (by omega), Nat.zero_add]
    · rw [Int.toNat_natCast]; simp only [Enc.int]; omega
    intro w23 hrow23 hu23
    refine ⟨rfl, by omega, _, rfl, p, rfl, Own.ofRow hpl hBg hrow23 (by omega) h6 ?_ ?_, hu12.trans (hu23.mono fun b _ e => by subst e; exact ⟨_, rfl, rfl⟩)⟩
    · rw [splice_len _ _ _ (by rw [flat_len]; simp only [List.length_replicate, Int.toNat_natCast, Enc.int]; omega)]; exact h7
    · show (splice cs (p * 1) _).take (p * 1) = _
      rw [splice_take _ _ _ _ (Nat.le_refl _) (by omega), ← ht, flat_take _ _ _ (by omega), ← h8']
      show cs.take (p * 1) = (cs.take (l.length * 1)).take (p * 1)
      rw [List.take_take, Nat.min_eq_left (by omega)]
end Go.Proofs.Yteakjjbajjkloaa
