/- What package slices hands back at bytes: Grow, Concat. Conditions: none. -/
import Derived.Test.YteakjjbajjkloaaProg
import Derived.Test.YteakjjbajjkloaaSxO
import Derived.Test.YteakjjbajjkloaaWire
namespace Go.Proofs.Yteakjjbajjkloaa
open Go.Sx
set_option maxRecDepth 100000
set_option linter.unusedVariables false
set_option linter.unusedSimpArgs false
/- slices.Grow[[]byte,byte] -/
def sx52 (s : Option Addr) (s_n s_c : Nat) (n : Int) (R : Ending → World → Prop) (w : World) : Prop :=
  (((decide (n < 0)) = true → R (.panicked (panicOf (.iface 9 (.string (ByteArray.mk (#[99, 97, 110, 110, 111, 116, 32, 98, 101, 32, 110, 101, 103, 97, 116, 105, 118, 101]) : ByteArray))))) w) ∧ ((decide (n < 0)) = false →
    ∀ n1 : Int, n1 = IntKind.i64.wrap (((s_c : Nat) : Int) - ((s_n : Nat) : Int)) → (((decide ((IntKind.i64.wrap (n - n1)) > 0)) = true → (0 ≤ ((s_c : Nat) : Int) ∧ ((s_c : Nat) : Int) ≤ (s_c : Nat)) ∧ SemW Try.prog
    (Builtin.append_ #[26, 3] 26 #[.slice s (((s_c : Nat) : Int).toNat) s_c, .int .i64 (IntKind.i64.wrap (n - n1))]) (fun u3 w2 => ∃ (a4 : Option Addr) (l4 c4 : Nat), u3 = .slice a4 l4 c4 ∧ (0 ≤ ((s_n : Nat) : Int) ∧
    ((s_n : Nat) : Int) ≤ (c4 : Nat)) ∧ R (.returned (.slice a4 (((s_n : Nat) : Int).toNat) c4)) w2) w) ∧ ((decide ((IntKind.i64.wrap (n - n1)) > 0)) = false → R (.returned (.slice s s_n s_c)) w))))
theorem sx52.ok {s : Option Addr} {s_n s_c : Nat} {n : Int} {R : Ending → World → Prop} {w : World} (h : sx52 s s_n s_c n R w) : CallsW Try.prog 52 [.slice s s_n s_c, .int .i64 n] w R :=
  callsW_of mix Try.func52 (by kernel_rfl) (by kernel_rfl) (Eq.mpr (by kernel_rfl : denFn Try.prog { sem := [22], named := [13] } Try.f52 [.slice s s_n s_c, .int .i64 n] R w = sx52 s s_n s_c n R w) h)

/- slices.Concat[[]byte,byte] -/
def sx44 (slices : Option Addr) (slices_n slices_c : Nat) (R : Ending → World → Prop) (w : World) : Prop :=
  ∃ (I1 : Int → Int → World → Prop) (m1 : Int → Int → World → Nat), I1 0 0 w ∧ ∀ (n2 : Int) (n3 : Int) (w4 : World), I1 n2 n3 w4 → (((decide (n3 < ((slices_n : Nat) : Int))) = true → withSome slices (fun d5 => (0 ≤ n3 ∧ n3
    < (slices_n : Nat)) ∧ ∃ (a6 : Option Addr) (l6 c6 : Nat), w4.cell? (Addr.add d5 (n3.toNat * 1)) = some (.slice a6 l6 c6) ∧ ∀ n7 : Int, n7 = IntKind.i64.wrap (n2 + ((l6 : Nat) : Int)) → (((decide (n7 < 0)) = true → R
    (.panicked (panicOf (.iface 9 (.string (ByteArray.mk (#[108, 101, 110, 32, 111, 117, 116, 32, 111, 102, 32, 114, 97, 110, 103, 101]) : ByteArray))))) w4) ∧ ((decide (n7 < 0)) = false → (I1 n7 (IntKind.i64.wrap (n3 +
    1)) w4 ∧ m1 n7 (IntKind.i64.wrap (n3 + 1)) w4 < m1 n2 n3 w4))))) ∧ ((decide (n3 < ((slices_n : Nat) : Int))) = false → CallsW Try.prog 52 [.slice none 0 0, .int .i64 n2] w4 (RetR R fun u9 w8 => ∃ (a10 : Option Addr)
    (l10 c10 : Nat), u9 = .slice a10 l10 c10 ∧ ∃ (I12 : Option Addr → Nat → Nat → Int → World → Prop) (m12 : Option Addr → Nat → Nat → Int → World → Nat), I12 a10 l10 c10 0 w8 ∧ ∀ (a13 : Option Addr) (l13 c13 : Nat) (n14
    : Int) (w15 : World), I12 a13 l13 c13 n14 w15 → (((decide (n14 < ((slices_n : Nat) : Int))) = true → withSome slices (fun d16 => (0 ≤ n14 ∧ n14 < (slices_n : Nat)) ∧ ∃ (a17 : Option Addr) (l17 c17 : Nat), w15.cell?
    (Addr.add d16 (n14.toNat * 1)) = some (.slice a17 l17 c17) ∧ SemW Try.prog (Builtin.append_ #[26, 26] 26 #[.slice a13 l13 c13, .slice a17 l17 c17]) (fun u19 w18 => ∃ (a20 : Option Addr) (l20 c20 : Nat), u19 = .slice
    a20 l20 c20 ∧ (I12 a20 l20 c20 (IntKind.i64.wrap (n14 + 1)) w18 ∧ m12 a20 l20 c20 (IntKind.i64.wrap (n14 + 1)) w18 < m12 a13 l13 c13 n14 w15)) w15)) ∧ ((decide (n14 < ((slices_n : Nat) : Int))) = false → R (.returned
    (.slice a13 l13 c13)) w15)))))
theorem sx44.ok {slices : Option Addr} {slices_n slices_c : Nat} {R : Ending → World → Prop} {w : World} (h : sx44 slices slices_n slices_c R w) : CallsW Try.prog 44 [.slice slices slices_n slices_c] w R :=
  callsW_of mix Try.func44 (by kernel_rfl) (by kernel_rfl) (Eq.mpr (by kernel_rfl : denFn Try.prog { sem := [33], named := [18], loops := [(3, { slots := [(3, .int .i64), (11, .int .i64)], cells := [] }), (11, { slots := [(6, .slice), (27, .int .i64)], cells := [] })] } Try.f44 [.slice slices slices_n slices_c] R w = sx44 slices slices_n slices_c R w) h)

/- reprise/wire.Join -/
def sx30 (parts : Option Addr) (parts_n parts_c : Nat) (R : Ending → World → Prop) (w : World) : Prop :=
  CallsW Try.prog 44 [.slice parts parts_n parts_c] w (RetR R fun u2 w1 => ∃ (a3 : Option Addr) (l3 c3 : Nat), u2 = .slice a3 l3 c3 ∧ R (.returned (.slice a3 l3 c3)) w1)
theorem sx30.ok {parts : Option Addr} {parts_n parts_c : Nat} {R : Ending → World → Prop} {w : World} (h : sx30 parts parts_n parts_c R w) : CallsW Try.prog 30 [.slice parts parts_n parts_c] w R :=
  callsW_of mix Try.func30 (by kernel_rfl) (by kernel_rfl) (Eq.mpr (by kernel_rfl : denFn Try.prog {} Try.f30 [.slice parts parts_n parts_c] R w = sx30 parts parts_n parts_c R w) h)


theorem Grow_ok {m : Nat} {w : World} (hm : m ≤ 1099511627776) : CallsW Try.prog 52 [.slice none 0 0, .int .i64 m] w (Rets (Fresh w 5 (Enc.int .u8) [])) := by
  refine sx52.ok ?_
  unfold sx52
  refine ⟨fun h => by simp at h; omega, fun _ => ?_⟩
  have hw : ∀ n1 : Int, n1 = IntKind.i64.wrap (((0 : Nat) : Int) - ((0 : Nat) : Int)) → IntKind.i64.wrap ((m : Int) - n1) = m := by
    rintro n1 rfl
    simp only [IntKind.wrap_i64]; omega
  intro n1 h1
  rw [hw n1 h1]
  refine ⟨fun hpos => ⟨by omega, ?_⟩, fun hz => ?_⟩
  · simp only [decide_eq_true_eq] at hpos
    refine append_zeros (E := Enc.int .u8) (B := w.heap.size) (e := 5) (bytes := 1) (kn := .i64) (n := 0) (c := 0) (l := []) (x := 0) (z := .int .u8 0) (by kernel_rfl) (by kernel_rfl) (by kernel_rfl) rfl (Own.nil _ _ _ _) (by omega) (by simp [maxLen]; omega) (by omega) ?_
    intro b c' w' hb ho hg
    have ho0 := ho.take (k := 0) (Nat.zero_le _)
    exact ⟨_, _, _, rfl, ⟨by omega, by omega⟩, _, rfl, _, _, _, rfl, by simpa using ho0.base hb, hg⟩
  · exact ⟨_, rfl, none, 0, 0, rfl, Own.nil _ _ _ _, Grew.refl _⟩

theorem Concat_ok {s : Option Addr} {n c : Nat} {ps : List (Option Addr × Nat × Nat)} {ls : List (List Int)} {w : World} (hs : Sl w s Enc.slice ps) (hn : n = ps.length) (hll : ls.length = ps.length)
    (hl : ∀ (k : Nat) (p : Option Addr × Nat × Nat) (l : List Int), ps[k]? = some p → ls[k]? = some l → Reads w (Enc.int .u8) p l) (hsum : ls.flatten.length ≤ 1099511627776) (hn63 : n < 1099511627776) :
    CallsW Try.prog 44 [.slice s n c] w (Rets (Fresh w 5 (Enc.int .u8) ls.flatten)) := by
  refine sx44.ok ?_
  unfold sx44
  subst hn
  have hpart : ∀ k, k ≤ ls.length → (ls.take k).flatten.length ≤ ls.flatten.length := fun k _ => by
    conv => rhs; rw [← List.take_append_drop k ls, List.flatten_append, List.length_append]
    omega
  have hstep : ∀ (k : Nat) (l : List Int), ls[k]? = some l → (ls.take (k + 1)).flatten = (ls.take k).flatten ++ l := fun k l h => by rw [take_snoc h]; simp
  refine ⟨fun m i w' => ∃ k : Nat, i = k ∧ k ≤ ps.length ∧ m = (ls.take k).flatten.length ∧ w' = w, fun _ i _ => ps.length - i.toNat, ⟨0, rfl, Nat.zero_le _, by simp, rfl⟩, ?_⟩
  rintro m i w' ⟨k, rfl, hk, rfl, rfl⟩
  refine ⟨fun hlt => ?_, fun hge => ?_⟩
  · simp only [decide_eq_true_eq] at hlt
    obtain ⟨d, p, rfl, hp, hc⟩ := hs.at_ (n := k) (by omega) hlt
    simp only [Int.toNat_natCast] at hp
    obtain ⟨l, hlk⟩ : ∃ l, ls[k]? = some l := ⟨ls[k]'(by omega), by simp⟩
    have hr := hl k p l hp hlk
    have h1 := hstep k l hlk
    have h2 := hpart (k + 1) (by omega)
    rw [h1, List.length_append] at h2
    refine ⟨by omega, p.1, p.2.1, p.2.2, by simpa [CellsAt, Enc.slice, Addr.add_zero'] using hc.1, ?_⟩
    rintro n7 rfl
    have hw : IntKind.i64.wrap (((ls.take k).flatten.length : Int) + (p.2.1 : Int)) = ((ls.take (k + 1)).flatten.length : Int) := by rw [h1, List.length_append, hr.2.1, IntKind.wrap_i64]; omega
    have hk1 : IntKind.i64.wrap ((k : Int) + 1) = ((k + 1 : Nat) : Int) := by rw [IntKind.wrap_i64]; omega
    rw [hw, hk1]
    refine ⟨fun hneg => by simp at hneg; omega, fun _ => ⟨⟨k + 1, rfl, by omega, rfl, rfl⟩, ?_⟩⟩
    show ps.length - (((k + 1 : Nat) : Int)).toNat < ps.length - ((k : Int)).toNat
    omega
  · simp only [decide_eq_false_iff_not] at hge
    have hkk : k = ls.length := by omega
    subst hkk
    rw [List.take_length]
    refine (Grow_ok hsum).use fun v w8 ⟨a, n0, c0, hv, ho, hg⟩ => ?_
    subst hv
    refine ⟨a, n0, c0, rfl, fun a1 n1 c1 i w9 => ∃ j : Nat, i = j ∧ j ≤ ps.length ∧ Own w9 w'.heap.size 5 (Enc.int .u8) a1 n1 c1 (ls.take j).flatten ∧ Grew w' w9, fun _ _ _ i _ => ps.length - i.toNat, ⟨0, rfl, Nat.zero_le _, by simpa using ho, hg⟩, ?_⟩
    rintro a1 n1 c1 i w9 ⟨j, rfl, hj, ho9, hg9⟩
    refine ⟨fun hlt => ?_, fun hge => ?_⟩
    · simp only [decide_eq_true_eq] at hlt
      obtain ⟨d, p, rfl, hp, hc⟩ := (hs.grew hg9).at_ (n := j) (by omega) hlt
      simp only [Int.toNat_natCast] at hp
      obtain ⟨l, hlk⟩ : ∃ l, ls[j]? = some l := ⟨ls[j]'(by omega), by simp⟩
      have hr := (hl j p l hp hlk).grew hg9
      have h1 := hstep j l hlk
      have h2 := hpart (j + 1) (by omega)
      rw [h1, List.length_append] at h2
      have hk1 : IntKind.i64.wrap ((j : Int) + 1) = ((j + 1 : Nat) : Int) := by rw [IntKind.wrap_i64]; omega
      refine ⟨by omega, p.1, p.2.1, p.2.2, by simpa [CellsAt, Enc.slice, Addr.add_zero'] using hc.1, ?_⟩
      refine append_sl e8 ho9 hr.1 hr.2.1 hr.2.2.1 hg9.size (by simp only [maxLen]; omega) (by omega) ?_
      rintro v w10 ⟨a2, n2, c2, rfl, ho2, hu2, hb2⟩
      rw [hk1]
      refine ⟨a2, n2, c2, rfl, ⟨j + 1, rfl, by omega, by rw [h1]; exact ho2, hg9.then_own hu2 fun b hb => (ho9.blk hb).1⟩, ?_⟩
      show ps.length - (((j + 1 : Nat) : Int)).toNat < ps.length - ((j : Int)).toNat
      omega
    · simp only [decide_eq_false_iff_not] at hge
      have hjj : j = ls.length := by omega
      subst hjj
      rw [List.take_length] at ho9
      exact ⟨_, rfl, a1, n1, c1, rfl, ho9, hg9⟩

theorem Join_ok {s : Option Addr} {n c : Nat} {ps : List (Option Addr × Nat × Nat)} {ls : List (List Int)} {w : World} (hs : Sl w s Enc.slice ps) (hn : n = ps.length) (hll : ls.length = ps.length)
    (hl : ∀ (k : Nat) (p : Option Addr × Nat × Nat) (l : List Int), ps[k]? = some p → ls[k]? = some l → Reads w (Enc.int .u8) p l) (hsum : ls.flatten.length ≤ 1099511627776) (hn63 : n < 1099511627776) :
    CallsW Try.prog 30 [.slice s n c] w (Rets (Fresh w 5 (Enc.int .u8) ls.flatten)) := by
  refine sx30.ok ?_
  unfold sx30
  refine (Concat_ok hs hn hll hl hsum hn63).use fun v w' ⟨a, n0, c0, hv, h⟩ => ?_
  subst hv
  exact ⟨a, n0, c0, rfl, _, rfl, a, n0, c0, rfl, h⟩
end Go.Proofs.Yteakjjbajjkloaa
