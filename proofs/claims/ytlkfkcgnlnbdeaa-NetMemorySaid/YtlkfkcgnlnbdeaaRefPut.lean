/- What the reference's Put hands back; bytes appended. Conditions: none. -/
import Derived.Test.YtlkfkcgnlnbdeaaProg
import Derived.Test.YtlkfkcgnlnbdeaaBytesE
import Derived.Test.YtlkfkcgnlnbdeaaSxO
namespace Go.Proofs.Ytlkfkcgnlnbdeaa
open Go.Sx
set_option maxRecDepth 100000
set_option linter.unusedVariables false
set_option linter.unusedSimpArgs false
/- reprise/repriseref02.Put -/
def sx48 (x : Int) (R : Ending → World → Prop) (w : World) : Prop :=
  ∀ (b1 : Nat) (w2 : World), Alloc w w2 b1 (.cells #[] 5) → ∃ (I3 : Int → Option Addr → Nat → Nat → World → Prop) (m3 : Int → Option Addr → Nat → Nat → World → Nat), I3 x (some ⟨b1, 0, none⟩) 0 0 w2 ∧ ∀ (n4 : Int) (a5 :
    Option Addr) (l5 c5 : Nat) (w6 : World), I3 n4 a5 l5 c5 w6 → (((decide (n4 ≥ 128)) = true → (((128 : Int) = 0 → R (.panicked (divPanic Try.prog)) w6) ∧ ((128 : Int) ≠ 0 → ∀ n7 : Int, n7 = IntKind.u8.wrap (Int.tmod n4
    128) → ∀ (b8 : Nat) (w9 : World), Alloc w6 w9 b8 (.cells #[.int .u8 (IntKind.u8.wrap (n7 + 128))] 5) → SemW Try.prog (Builtin.append_ #[79, 79] 79 #[.slice a5 l5 c5, .slice (some ⟨b8, 0, none⟩) 1 1]) (fun u11 w10 => ∃
    (a12 : Option Addr) (l12 c12 : Nat), u11 = .slice a12 l12 c12 ∧ (((128 : Int) = 0 → R (.panicked (divPanic Try.prog)) w10) ∧ ((128 : Int) ≠ 0 → ∀ n13 : Int, n13 = IntKind.u64.wrap (Int.tdiv n4 128) → (I3 n13 a12 l12
    c12 w10 ∧ m3 n13 a12 l12 c12 w10 < m3 n4 a5 l5 c5 w6)))) w9))) ∧ ((decide (n4 ≥ 128)) = false → ∀ (b14 : Nat) (w15 : World), Alloc w6 w15 b14 (.cells #[.int .u8 (IntKind.u8.wrap n4)] 5) → SemW Try.prog
    (Builtin.append_ #[79, 79] 79 #[.slice a5 l5 c5, .slice (some ⟨b14, 0, none⟩) 1 1]) (fun u17 w16 => ∃ (a18 : Option Addr) (l18 c18 : Nat), u17 = .slice a18 l18 c18 ∧ R (.returned (.slice a18 l18 c18)) w16) w15))
theorem sx48.ok {x : Int} {R : Ending → World → Prop} {w : World} (h : sx48 x R w) : CallsW Try.prog 48 [.int .u64 x] w R :=
  callsW_of mix Try.func48 (by kernel_rfl) (by kernel_rfl) (Eq.mpr (by kernel_rfl : denFn Try.prog { sem := [13, 20], named := [10, 15], loops := [(2, { slots := [(0, .int .u64), (3, .slice)], cells := [] })] } Try.f48 [.int .u64 x] R w = sx48 x R w) h)


theorem rPut_ok {x : Int} {w : World} (h0 : 0 ≤ x) (h1 : x < u64m) : CallsW Try.prog 48 [.int .u64 x] w (Rets (Fresh w 5 (Enc.int .u8) (putB x))) := by
  refine sx48.ok ?_
  unfold sx48
  have h10 := putB_len10 h1
  intro b1 w2 hal
  have hoe := Own.alloc (E := Enc.int .u8) (l := []) hal (Nat.le_refl _) rfl (by decide)
  refine ⟨fun x' a' n' c' w' => ∃ done, Own w' w.heap.size 5 (Enc.int .u8) a' n' c' done ∧ done ++ putB x' = putB x ∧ 0 ≤ x' ∧ x' < u64m ∧ Grew w w', fun x' _ _ _ _ => x'.toNat, ⟨[], hoe, rfl, h0, h1, hal.grew⟩, ?_⟩
  rintro x' a' n' c' w' ⟨done, ho', hd, hx0, hx1, hg⟩
  have hlen : done.length + (putB x').length ≤ 10 := by rw [← List.length_append, hd]; exact h10
  have hpos := putB_pos x'
  refine ⟨fun hge => ⟨fun h => by simp at h, fun _ => ?_⟩, fun hlt b1 w1 hal => ?_⟩
  · simp only [decide_eq_true_eq] at hge
    rintro y rfl b1 w1 hal
    have hm : Int.tmod x' 128 = x' % 128 := Int.tmod_eq_emod_of_nonneg hx0
    refine append_new (l2 := [x' % 128 + 128]) e8 ho' hal (by rw [hm, IntKind.wrap_u8', IntKind.wrap_u8']; simp only [List.flatMap_cons, List.flatMap_nil, Enc.int, List.append_nil, List.cons.injEq, and_true, Value.int.injEq, true_and]; omega) rfl hg.size (by simp [maxLen]; omega) (by simp; omega) ?_
    rintro v w2 ⟨a2, n2, c2, rfl, ho2, hu2, hb2⟩
    refine ⟨a2, n2, c2, rfl, fun h => by simp at h, fun _ y hy => ?_⟩
    have hy' : y = x' / 128 := by rw [hy, Int.tdiv_eq_ediv_of_nonneg hx0, IntKind.wrap_u64]; simp only [u64m] at hx1; omega
    subst hy'
    have hp := putB_ge (x := x') (by omega)
    refine ⟨⟨done ++ [x' % 128 + 128], ho2, by rw [List.append_assoc, ← hd, hp]; rfl, by omega, by simp only [u64m] at *; omega, hg.then_own hu2 fun b hb => (ho'.blk hb).1⟩, by show (x' / 128).toNat < x'.toNat; omega⟩
  · simp only [decide_eq_false_iff_not, ge_iff_le] at hlt
    have hlt' : x' < 128 := by omega
    refine append_new (l2 := [x']) e8 ho' hal (by rw [IntKind.wrap_u8', Int.emod_eq_of_lt hx0 (by omega)]; rfl) rfl hg.size (by simp [maxLen]; omega) (by simp; omega) ?_
    rintro v w2 ⟨a2, n2, c2, rfl, ho2, hu2, hb2⟩
    rw [putB_lt hlt'] at hd
    rw [hd] at ho2
    exact ⟨a2, n2, c2, rfl, _, rfl, a2, n2, c2, rfl, ho2, hg.then_own hu2 fun b hb => (ho'.blk hb).1⟩

theorem pushR_ok {w0 w w' : World} {a a2 : Option Addr} {n c n2 c2 : Nat} {l l2 : List Int} {k : Value → World → Prop} (ho : Own w w0.heap.size 5 (Enc.int .u8) a n c l) (hg : Grew w0 w) (hf : Reads w' (Enc.int .u8) (a2, n2, c2) l2) (hg2 : Grew w w')
    (hlen : l.length + l2.length ≤ 140737488351232) (hk : ∀ a3 n3 c3 w3, Own w3 w0.heap.size 5 (Enc.int .u8) a3 n3 c3 (l ++ l2) → Grew w0 w3 → k (.slice a3 n3 c3) w3) :
    SemW Try.prog (Builtin.append_ #[79, 79] 79 #[.slice a n c, .slice a2 n2 c2]) k w' := by
  refine append_sl e8 (ho.grew hg2) hf.1 hf.2.1 hf.2.2.1 (Nat.le_trans hg.size hg2.size) (by simp only [maxLen]; omega) (by omega) ?_
  rintro v w3 ⟨a3, n3, c3, rfl, ho3, hu3, -⟩
  exact hk a3 n3 c3 w3 ho3 ((hg.trans hg2).then_own hu3 fun b hb => (ho.blk hb).1)

theorem push_ok {w0 w w' : World} {a a2 : Option Addr} {n c n2 c2 : Nat} {l l2 : List Int} {k : Value → World → Prop} (ho : Own w w0.heap.size 5 (Enc.int .u8) a n c l) (hg : Grew w0 w) (hf : Own w' w.heap.size 5 (Enc.int .u8) a2 n2 c2 l2) (hg2 : Grew w w')
    (hlen : l.length + l2.length ≤ 1099511627776) (hk : ∀ a3 n3 c3 w3, Own w3 w0.heap.size 5 (Enc.int .u8) a3 n3 c3 (l ++ l2) → Grew w0 w3 → k (.slice a3 n3 c3) w3) :
    SemW Try.prog (Builtin.append_ #[79, 79] 79 #[.slice a n c, .slice a2 n2 c2]) k w' := by
  refine append_sl e8 (ho.grew hg2) hf.sl hf.len hf.out_none (Nat.le_trans hg.size hg2.size) (by simp only [maxLen]; omega) (by omega) ?_
  rintro v w3 ⟨a3, n3, c3, rfl, ho3, hu3, -⟩
  exact hk a3 n3 c3 w3 ho3 ((hg.trans hg2).then_own hu3 fun b hb => (ho.blk hb).1)
theorem push_new {w0 w w' : World} {a : Option Addr} {n c b : Nat} {l : List Int} {x : Int} {k : Value → World → Prop} (ho : Own w w0.heap.size 5 (Enc.int .u8) a n c l) (hg : Grew w0 w) (hal : Alloc w w' b (.cells #[.int .u8 x] 5))
    (hlen : l.length + 1 ≤ 1099511627776) (hk : ∀ a3 n3 c3 w3, Own w3 w0.heap.size 5 (Enc.int .u8) a3 n3 c3 (l ++ [x]) → Grew w0 w3 → k (.slice a3 n3 c3) w3) :
    SemW Try.prog (Builtin.append_ #[79, 79] 79 #[.slice a n c, .slice (some ⟨b, 0, none⟩) 1 1]) k w' := by
  refine push_ok (l2 := [x]) ho hg (Own.alloc (l := [x]) hal (Nat.le_refl _) rfl (by simp [maxLen])) hal.grew (by simpa using hlen) hk

end Go.Proofs.Ytlkfkcgnlnbdeaa
