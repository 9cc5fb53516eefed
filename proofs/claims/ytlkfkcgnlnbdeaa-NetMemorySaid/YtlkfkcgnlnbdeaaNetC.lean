/- What same, laid, the clones and the copies of messages hand back. Conditions: none. -/
import Derived.Test.YtlkfkcgnlnbdeaaProg
import Derived.Test.YtlkfkcgnlnbdeaaNetA
import Derived.Test.YtlkfkcgnlnbdeaaNetB2
import Derived.Test.YtlkfkcgnlnbdeaaSxNa
namespace Go.Proofs.Ytlkfkcgnlnbdeaa
open Go.Sx
set_option maxRecDepth 100000
set_option linter.unusedVariables false
set_option linter.unusedSimpArgs false
/- slices.Clone[[]int,int] -/
def sx45 (s : Option Addr) (s_n s_c : Nat) (R : Ending → World → Prop) (w : World) : Prop :=
  (((Option.isNone s) = true → R (.returned (.slice none 0 0)) w) ∧ ((Option.isNone s) = false → ∀ (b1 : Nat) (w2 : World), Alloc w w2 b1 (.cells #[] 3) → SemW Try.prog (Builtin.append_ #[31, 31] 31 #[.slice (some ⟨b1, 0,
    none⟩) 0 0, .slice s s_n s_c]) (fun u4 w3 => ∃ (a5 : Option Addr) (l5 c5 : Nat), u4 = .slice a5 l5 c5 ∧ R (.returned (.slice a5 l5 c5)) w3) w2))
theorem sx45.ok {s : Option Addr} {s_n s_c : Nat} {R : Ending → World → Prop} {w : World} (h : sx45 s s_n s_c R w) : CallsW Try.prog 45 [.slice s s_n s_c] w R :=
  callsW_of mix Try.func45 (by kernel_rfl) (by kernel_rfl) (Eq.mpr (by kernel_rfl : denFn Try.prog { sem := [7] } Try.f45 [.slice s s_n s_c] R w = sx45 s s_n s_c R w) h)

/- slices.Clone[[]uint64,uint64] -/
def sx46 (s : Option Addr) (s_n s_c : Nat) (R : Ending → World → Prop) (w : World) : Prop :=
  (((Option.isNone s) = true → R (.returned (.slice none 0 0)) w) ∧ ((Option.isNone s) = false → ∀ (b1 : Nat) (w2 : World), Alloc w w2 b1 (.cells #[] 56) → SemW Try.prog (Builtin.append_ #[32, 32] 32 #[.slice (some ⟨b1, 0,
    none⟩) 0 0, .slice s s_n s_c]) (fun u4 w3 => ∃ (a5 : Option Addr) (l5 c5 : Nat), u4 = .slice a5 l5 c5 ∧ R (.returned (.slice a5 l5 c5)) w3) w2))
theorem sx46.ok {s : Option Addr} {s_n s_c : Nat} {R : Ending → World → Prop} {w : World} (h : sx46 s s_n s_c R w) : CallsW Try.prog 46 [.slice s s_n s_c] w R :=
  callsW_of mix Try.func46 (by kernel_rfl) (by kernel_rfl) (Eq.mpr (by kernel_rfl : denFn Try.prog { sem := [7] } Try.f46 [.slice s s_n s_c] R w = sx46 s s_n s_c R w) h)

/- slices.Clone[[]reprise/api.Pair,reprise/api.Pair] -/
def sx47 (s : Option Addr) (s_n s_c : Nat) (R : Ending → World → Prop) (w : World) : Prop :=
  (((Option.isNone s) = true → R (.returned (.slice none 0 0)) w) ∧ ((Option.isNone s) = false → ∀ (b1 : Nat) (w2 : World), Alloc w w2 b1 (.cells #[] 60) → SemW Try.prog (Builtin.append_ #[33, 33] 33 #[.slice (some ⟨b1, 0,
    none⟩) 0 0, .slice s s_n s_c]) (fun u4 w3 => ∃ (a5 : Option Addr) (l5 c5 : Nat), u4 = .slice a5 l5 c5 ∧ R (.returned (.slice a5 l5 c5)) w3) w2))
theorem sx47.ok {s : Option Addr} {s_n s_c : Nat} {R : Ending → World → Prop} {w : World} (h : sx47 s s_n s_c R w) : CallsW Try.prog 47 [.slice s s_n s_c] w R :=
  callsW_of mix Try.func47 (by kernel_rfl) (by kernel_rfl) (Eq.mpr (by kernel_rfl : denFn Try.prog { sem := [7] } Try.f47 [.slice s s_n s_c] R w = sx47 s s_n s_c R w) h)

/- reprise/repriselaw16.same -/
def sx21 (d_0 : Int) (d_1 : Int) (d_2 : Int) (d_3 : Int) (d_4 : Int) (d_5 : Int) (d_6 : Option Addr) (d_6_n d_6_c : Nat) (d_7 : Option Addr) (d_7_n d_7_c : Nat) (d_8 : Option Addr) (d_8_n d_8_c : Nat) (i_0 : Int) (i_1 : Int) (i_2 : Int) (i_3 : Int) (i_4 : Int) (i_5 : Int) (i_6 : Option Addr) (i_6_n i_6_c : Nat) (i_7 : Option Addr) (i_7_n i_7_c : Nat) (i_8 : Option Addr) (i_8_n i_8_c : Nat) (R : Ending → World → Prop) (w : World) : Prop :=
  ∀ w1, Grew w w1 → ∀ w2, Grew w1 w2 → CallsW Try.prog 38 [.agg #[.int .i64 d_0, .int .i64 d_1, .int .i64 d_2, .int .i64 d_3, .int .i64 d_4, .int .i64 d_5, .slice d_6 d_6_n d_6_c, .slice d_7 d_7_n d_7_c, .slice d_8 d_8_n
    d_8_c]] w2 (RetR R fun u4 w3 => ∃ (a5 : Option Addr) (l5 c5 : Nat) (n6 : Int), u4 = .tuple #[.slice a5 l5 c5, .int .i64 n6] ∧ CallsW Try.prog 38 [.agg #[.int .i64 i_0, .int .i64 i_1, .int .i64 i_2, .int .i64 i_3, .int
    .i64 i_4, .int .i64 i_5, .slice i_6 i_6_n i_6_c, .slice i_7 i_7_n i_7_c, .slice i_8 i_8_n i_8_c]] w3 (RetR R fun u9 w8 => ∃ (a10 : Option Addr) (l10 c10 : Nat) (n11 : Int), u9 = .tuple #[.slice a10 l10 c10, .int .i64
    n11] ∧ (((n6 != n11) = true → R (.returned (.bool false)) w8) ∧ ((n6 != n11) = false → SemW Try.prog (convert 79 9 (.slice a5 l5 c5)) (fun u14 w13 => ∃ (s15 : ByteArray), u14 = .string s15 ∧ SemW Try.prog (convert 79
    9 (.slice a10 l10 c10)) (fun u17 w16 => ∃ (s18 : ByteArray), u17 = .string s18 ∧ ∃ (b19 : Bool), PureTo Try.prog (eqS .neq 9 (.tmp 24) (.tmp 26) (.string s15) (.string s18)) (.bool b19) ∧ ((b19 = true → R (.returned
    (.bool false)) w16) ∧ (b19 = false → (((n6 == 0) = true → R (.returned (.bool true)) w16) ∧ ((n6 == 0) = false → (((d_0 == i_0) = true → (((d_1 == i_1) = true → (((d_2 == i_2) = true → (((d_3 == i_3) = true → (((d_4
    == i_4) = true → (((d_5 == i_5) = true → (((((d_6_n : Nat) : Int) == ((i_6_n : Nat) : Int)) = true → (((((d_7_n : Nat) : Int) == ((i_7_n : Nat) : Int)) = true → R (.returned (.bool (((d_8_n : Nat) : Int) == ((i_8_n :
    Nat) : Int)))) w16) ∧ ((((d_7_n : Nat) : Int) == ((i_7_n : Nat) : Int)) = false → R (.returned (.bool false)) w16))) ∧ ((((d_6_n : Nat) : Int) == ((i_6_n : Nat) : Int)) = false → R (.returned (.bool false)) w16))) ∧
    ((d_5 == i_5) = false → R (.returned (.bool false)) w16))) ∧ ((d_4 == i_4) = false → R (.returned (.bool false)) w16))) ∧ ((d_3 == i_3) = false → R (.returned (.bool false)) w16))) ∧ ((d_2 == i_2) = false → R
    (.returned (.bool false)) w16))) ∧ ((d_1 == i_1) = false → R (.returned (.bool false)) w16))) ∧ ((d_0 == i_0) = false → R (.returned (.bool false)) w16))))))) w13) w8))))
theorem sx21.ok {d_0 : Int} {d_1 : Int} {d_2 : Int} {d_3 : Int} {d_4 : Int} {d_5 : Int} {d_6 : Option Addr} {d_6_n d_6_c : Nat} {d_7 : Option Addr} {d_7_n d_7_c : Nat} {d_8 : Option Addr} {d_8_n d_8_c : Nat} {i_0 : Int} {i_1 : Int} {i_2 : Int} {i_3 : Int} {i_4 : Int} {i_5 : Int} {i_6 : Option Addr} {i_6_n i_6_c : Nat} {i_7 : Option Addr} {i_7_n i_7_c : Nat} {i_8 : Option Addr} {i_8_n i_8_c : Nat} {R : Ending → World → Prop} {w : World} (h : sx21 d_0 d_1 d_2 d_3 d_4 d_5 d_6 d_6_n d_6_c d_7 d_7_n d_7_c d_8 d_8_n d_8_c i_0 i_1 i_2 i_3 i_4 i_5 i_6 i_6_n i_6_c i_7 i_7_n i_7_c i_8 i_8_n i_8_c R w) : CallsW Try.prog 21 [.agg #[.int .i64 d_0, .int .i64 d_1, .int .i64 d_2, .int .i64 d_3, .int .i64 d_4, .int .i64 d_5, .slice d_6 d_6_n d_6_c, .slice d_7 d_7_n d_7_c, .slice d_8 d_8_n d_8_c], .agg #[.int .i64 i_0, .int .i64 i_1, .int .i64 i_2, .int .i64 i_3, .int .i64 i_4, .int .i64 i_5, .slice i_6 i_6_n i_6_c, .slice i_7 i_7_n i_7_c, .slice i_8 i_8_n i_8_c]] w R :=
  callsW_of mix Try.func21 (by kernel_rfl) (by kernel_rfl) (Eq.mpr (by kernel_rfl : denFn Try.prog { locals := [2, 3], pureTo := [27], sem := [24, 26] } Try.f21 [.agg #[.int .i64 d_0, .int .i64 d_1, .int .i64 d_2, .int .i64 d_3, .int .i64 d_4, .int .i64 d_5, .slice d_6 d_6_n d_6_c, .slice d_7 d_7_n d_7_c, .slice d_8 d_8_n d_8_c], .agg #[.int .i64 i_0, .int .i64 i_1, .int .i64 i_2, .int .i64 i_3, .int .i64 i_4, .int .i64 i_5, .slice i_6 i_6_n i_6_c, .slice i_7 i_7_n i_7_c, .slice i_8 i_8_n i_8_c]] R w = sx21 d_0 d_1 d_2 d_3 d_4 d_5 d_6 d_6_n d_6_c d_7 d_7_n d_7_c d_8 d_8_n d_8_c i_0 i_1 i_2 i_3 i_4 i_5 i_6 i_6_n i_6_c i_7 i_7_n i_7_c i_8 i_8_n i_8_c R w) h)

/- reprise/repriselaw16.laid -/
def sx22 (batch : Int) (R : Ending → World → Prop) (w : World) : Prop :=
  ∀ w1, Grew w w1 → R (.returned (.agg #[.int .i64 5, .int .i64 3, .int .i64 1, .int .i64 batch, .int .i64 1, .int .i64 0, .slice none 0 0, .slice none 0 0, .slice none 0 0])) w1
theorem sx22.ok {batch : Int} {R : Ending → World → Prop} {w : World} (h : sx22 batch R w) : CallsW Try.prog 22 [.int .i64 batch] w R :=
  callsW_of mix Try.func22 (by kernel_rfl) (by kernel_rfl) (Eq.mpr (by kernel_rfl : denFn Try.prog { locals := [2] } Try.f22 [.int .i64 batch] R w = sx22 batch R w) h)

/- reprise/net.copied -/
def sx29 (m_0 : Int) (m_1 : Int) (m_2 : Int) (m_3 : Int) (m_4 : Int) (m_5 : Int) (m_6 : Option Addr) (m_6_n m_6_c : Nat) (m_7 : Option Addr) (m_7_n m_7_c : Nat) (m_8 : Option Addr) (m_8_n m_8_c : Nat) (R : Ending → World → Prop) (w : World) : Prop :=
  ∀ w1, Grew w w1 → ∀ w2, Grew w1 w2 → ∀ w3, Grew w2 w3 → CallsW Try.prog 45 [.slice m_6 m_6_n m_6_c] w3 (Ret (fun u5 w4 => ∃ (a6 : Option Addr) (l6 c6 : Nat), u5 = .slice a6 l6 c6 ∧ SameB w3 w4 [] ∧ CallsW Try.prog 46
    [.slice m_7 m_7_n m_7_c] w4 (Ret (fun u9 w8 => ∃ (a10 : Option Addr) (l10 c10 : Nat), u9 = .slice a10 l10 c10 ∧ SameB w4 w8 [] ∧ CallsW Try.prog 47 [.slice m_8 m_8_n m_8_c] w8 (Ret (fun u13 w12 => ∃ (a14 : Option
    Addr) (l14 c14 : Nat), u13 = .slice a14 l14 c14 ∧ R (.returned (.agg #[.int .i64 m_0, .int .i64 m_1, .int .i64 m_2, .int .i64 m_3, .int .i64 m_4, .int .i64 m_5, .slice a6 l6 c6, .slice a10 l10 c10, .slice a14 l14
    c14])) w12) (fun c15 w12 => False))) (fun c11 w8 => False))) (fun c7 w4 => False))
theorem sx29.ok {m_0 : Int} {m_1 : Int} {m_2 : Int} {m_3 : Int} {m_4 : Int} {m_5 : Int} {m_6 : Option Addr} {m_6_n m_6_c : Nat} {m_7 : Option Addr} {m_7_n m_7_c : Nat} {m_8 : Option Addr} {m_8_n m_8_c : Nat} {R : Ending → World → Prop} {w : World} (h : sx29 m_0 m_1 m_2 m_3 m_4 m_5 m_6 m_6_n m_6_c m_7 m_7_n m_7_c m_8 m_8_n m_8_c R w) : CallsW Try.prog 29 [.agg #[.int .i64 m_0, .int .i64 m_1, .int .i64 m_2, .int .i64 m_3, .int .i64 m_4, .int .i64 m_5, .slice m_6 m_6_n m_6_c, .slice m_7 m_7_n m_7_c, .slice m_8 m_8_n m_8_c]] w R :=
  callsW_of mix Try.func29 (by kernel_rfl) (by kernel_rfl) (Eq.mpr (by kernel_rfl : denFn Try.prog { locals := [1, 2], draws := [(1, { order := (.cons 0 (.cons 1 (.cons 3 (.cons 4 (.cons 6 (.cons 7 (.cons 2 (.cons 9 (.cons 5 (.cons 8 (.cons 10 (.cons 11 (.cons 12 (.cons 13 (.cons 14 .nil))))))))))))))), bars := [8, 10, 12, 14] })] } Try.f29 [.agg #[.int .i64 m_0, .int .i64 m_1, .int .i64 m_2, .int .i64 m_3, .int .i64 m_4, .int .i64 m_5, .slice m_6 m_6_n m_6_c, .slice m_7 m_7_n m_7_c, .slice m_8 m_8_n m_8_c]] R w = sx29 m_0 m_1 m_2 m_3 m_4 m_5 m_6 m_6_n m_6_c m_7 m_7_n m_7_c m_8 m_8_n m_8_c R w) h)

/- reprise/repriseref16.Copied -/
def sx30 (m_0 : Int) (m_1 : Int) (m_2 : Int) (m_3 : Int) (m_4 : Int) (m_5 : Int) (m_6 : Option Addr) (m_6_n m_6_c : Nat) (m_7 : Option Addr) (m_7_n m_7_c : Nat) (m_8 : Option Addr) (m_8_n m_8_c : Nat) (R : Ending → World → Prop) (w : World) : Prop :=
  ∀ w1, Grew w w1 → ∀ w2, Grew w1 w2 → ∀ (b3 : Nat) (w4 : World), Alloc w2 w4 b3 (.cells #[] 3) → SemW Try.prog (Builtin.append_ #[31, 31] 31 #[.slice (some ⟨b3, 0, none⟩) 0 0, .slice m_6 m_6_n m_6_c]) (fun u6 w5 => ∃ (a7 :
    Option Addr) (l7 c7 : Nat), u6 = .slice a7 l7 c7 ∧ ∀ (b8 : Nat) (w9 : World), Alloc w5 w9 b8 (.cells #[] 56) → SemW Try.prog (Builtin.append_ #[32, 32] 32 #[.slice (some ⟨b8, 0, none⟩) 0 0, .slice m_7 m_7_n m_7_c])
    (fun u11 w10 => ∃ (a12 : Option Addr) (l12 c12 : Nat), u11 = .slice a12 l12 c12 ∧ ∀ (b13 : Nat) (w14 : World), Alloc w10 w14 b13 (.cells #[] 60) → SemW Try.prog (Builtin.append_ #[33, 33] 33 #[.slice (some ⟨b13, 0,
    none⟩) 0 0, .slice m_8 m_8_n m_8_c]) (fun u16 w15 => ∃ (a17 : Option Addr) (l17 c17 : Nat), u16 = .slice a17 l17 c17 ∧ R (.returned (.agg #[.int .i64 m_0, .int .i64 m_1, .int .i64 m_2, .int .i64 m_3, .int .i64 m_4,
    .int .i64 m_5, .slice a7 l7 c7, .slice a12 l12 c12, .slice a17 l17 c17])) w15) w14) w9) w4
theorem sx30.ok {m_0 : Int} {m_1 : Int} {m_2 : Int} {m_3 : Int} {m_4 : Int} {m_5 : Int} {m_6 : Option Addr} {m_6_n m_6_c : Nat} {m_7 : Option Addr} {m_7_n m_7_c : Nat} {m_8 : Option Addr} {m_8_n m_8_c : Nat} {R : Ending → World → Prop} {w : World} (h : sx30 m_0 m_1 m_2 m_3 m_4 m_5 m_6 m_6_n m_6_c m_7 m_7_n m_7_c m_8 m_8_n m_8_c R w) : CallsW Try.prog 30 [.agg #[.int .i64 m_0, .int .i64 m_1, .int .i64 m_2, .int .i64 m_3, .int .i64 m_4, .int .i64 m_5, .slice m_6 m_6_n m_6_c, .slice m_7 m_7_n m_7_c, .slice m_8 m_8_n m_8_c]] w R :=
  callsW_of mix Try.func30 (by kernel_rfl) (by kernel_rfl) (Eq.mpr (by kernel_rfl : denFn Try.prog { locals := [1, 2], sem := [10, 17, 24] } Try.f30 [.agg #[.int .i64 m_0, .int .i64 m_1, .int .i64 m_2, .int .i64 m_3, .int .i64 m_4, .int .i64 m_5, .slice m_6 m_6_n m_6_c, .slice m_7 m_7_n m_7_c, .slice m_8 m_8_n m_8_c]] R w = sx30 m_0 m_1 m_2 m_3 m_4 m_5 m_6 m_6_n m_6_c m_7 m_7_n m_7_c m_8 m_8_n m_8_c R w) h)


theorem elCloneI : ElemOk Try.prog 31 3 (Enc.int .i64).sz 8 := ElemOk.mk' (z := .int .i64 0) (by kernel_rfl) (by kernel_rfl) (by kernel_rfl)
theorem CloneI_ok {a : Option Addr} {n c : Nat} {l : List Int} {w : World} (hr : Reads w (Enc.int .i64) (a, n, c) l) (hl : l.length * 8 ≤ 140737488355328) : CallsW Try.prog 45 [.slice a n c] w (Rets (Fresh w 3 (Enc.int .i64) l)) := by
  refine sx45.ok ?_
  unfold sx45
  refine ⟨fun h => ?_, fun h b1 w2 hal => ?_⟩
  · have ha : a = none := by simpa using h
    subst ha
    have hn : n = l.length := hr.2.1
    have hc : c = 0 := hr.2.2.1 rfl
    have hnc : n ≤ c := hr.2.2.2
    have : l = [] := List.eq_nil_of_length_eq_zero (by omega)
    subst this
    exact ⟨_, rfl, none, 0, 0, rfl, Own.nil _ _ _ _, Grew.refl _⟩
  · have ho := Own.alloc (E := (Enc.int .i64)) (l := []) hal (Nat.le_refl _) rfl (by decide)
    have hr2 := hr.grew hal.grew
    refine append_sl elCloneI ho hr2.1 hr2.2.1 hr2.2.2.1 hal.grew.size (by simp [maxLen]; omega) (by simp; omega) ?_
    rintro v w3 ⟨a5, l5, c5, rfl, ho5, hu5, -⟩
    exact ⟨a5, l5, c5, rfl, _, rfl, a5, l5, c5, rfl, ho5, hal.grew.then_own hu5 fun b hb => (ho.blk hb).1⟩

theorem elCloneU : ElemOk Try.prog 32 56 (Enc.int .u64).sz 8 := ElemOk.mk' (z := .int .u64 0) (by kernel_rfl) (by kernel_rfl) (by kernel_rfl)
theorem CloneU_ok {a : Option Addr} {n c : Nat} {l : List Int} {w : World} (hr : Reads w (Enc.int .u64) (a, n, c) l) (hl : l.length * 8 ≤ 140737488355328) : CallsW Try.prog 46 [.slice a n c] w (Rets (Fresh w 56 (Enc.int .u64) l)) := by
  refine sx46.ok ?_
  unfold sx46
  refine ⟨fun h => ?_, fun h b1 w2 hal => ?_⟩
  · have ha : a = none := by simpa using h
    subst ha
    have hn : n = l.length := hr.2.1
    have hc : c = 0 := hr.2.2.1 rfl
    have hnc : n ≤ c := hr.2.2.2
    have : l = [] := List.eq_nil_of_length_eq_zero (by omega)
    subst this
    exact ⟨_, rfl, none, 0, 0, rfl, Own.nil _ _ _ _, Grew.refl _⟩
  · have ho := Own.alloc (E := (Enc.int .u64)) (l := []) hal (Nat.le_refl _) rfl (by decide)
    have hr2 := hr.grew hal.grew
    refine append_sl elCloneU ho hr2.1 hr2.2.1 hr2.2.2.1 hal.grew.size (by simp [maxLen]; omega) (by simp; omega) ?_
    rintro v w3 ⟨a5, l5, c5, rfl, ho5, hu5, -⟩
    exact ⟨a5, l5, c5, rfl, _, rfl, a5, l5, c5, rfl, ho5, hal.grew.then_own hu5 fun b hb => (ho.blk hb).1⟩

theorem elCloneP : ElemOk Try.prog 33 60 Enc.pair.sz 24 := ElemOk.mk' (z := .agg #[.int .u64 0, .bool false, .int .u64 0]) (by kernel_rfl) (by kernel_rfl) (by kernel_rfl)
theorem CloneP_ok {a : Option Addr} {n c : Nat} {l : List PairV} {w : World} (hr : Reads w Enc.pair (a, n, c) l) (hl : l.length * 24 ≤ 140737488355328) : CallsW Try.prog 47 [.slice a n c] w (Rets (Fresh w 60 Enc.pair l)) := by
  refine sx47.ok ?_
  unfold sx47
  refine ⟨fun h => ?_, fun h b1 w2 hal => ?_⟩
  · have ha : a = none := by simpa using h
    subst ha
    have hn : n = l.length := hr.2.1
    have hc : c = 0 := hr.2.2.1 rfl
    have hnc : n ≤ c := hr.2.2.2
    have : l = [] := List.eq_nil_of_length_eq_zero (by omega)
    subst this
    exact ⟨_, rfl, none, 0, 0, rfl, Own.nil _ _ _ _, Grew.refl _⟩
  · have ho := Own.alloc (E := Enc.pair) (l := []) hal (Nat.le_refl _) rfl (by decide)
    have hr2 := hr.grew hal.grew
    refine append_sl elCloneP ho hr2.1 hr2.2.1 hr2.2.2.1 hal.grew.size (by simp [maxLen]; omega) (by simp; omega) ?_
    rintro v w3 ⟨a5, l5, c5, rfl, ho5, hu5, -⟩
    exact ⟨a5, l5, c5, rfl, _, rfl, a5, l5, c5, rfl, ho5, hal.grew.then_own hu5 fun b hb => (ho.blk hb).1⟩

abbrev MO := MOwn 3 56 60

theorem same_ok {x y : Msg} {w : World} (hx : x.At w) (hy : y.At w) (hc : x.c = y.c) (hf : x.c.Fits) (h1 : x.c.ends.length ≤ 9223372036854775806) (h2 : x.c.keys.length ≤ 9223372036854775806) (h3 : x.c.pairs.length ≤ 9223372036854775806) :
    CallsW Try.prog 21 [x.val, y.val] w (Rets fun v w' => v = .bool true ∧ Grew w w') := by
  refine sx21.ok ?_
  unfold sx21
  intro w1 hg1 w2 hg2
  have hg2 := hg1.trans hg2
  refine (rEnc_ok (hx.grew hg2) hf h1 h2 h3).use fun v w3 ⟨a5, l5, c5, hv, ho3, hg3⟩ => ?_
  subst hv
  refine ⟨_, _, _, _, rfl, (rEnc_ok (hy.grew (hg2.trans hg3)) (hc ▸ hf) (hc ▸ h1) (hc ▸ h2) (hc ▸ h3)).use fun v w8 ⟨a10, l10, c10, hv, ho8, hg8⟩ => ?_⟩
  subst hv
  rw [← hc] at ho8
  have ho5 := ho3.grew hg8
  have hg8' := hg2.trans (hg3.trans hg8)
  have he := hx.e.2.1; have hk := hx.k.2.1; have hp := hx.p.2.1
  have he' := hy.e.2.1; have hk' := hy.k.2.1; have hp' := hy.p.2.1
  rw [← hc] at he' hk' hp'
  rw [← hc]
  refine ⟨_, _, _, _, rfl, fun h => (by simp at h), fun _ => ?_⟩
  refine conv_str (e := 5) (by kernel_rfl) (by kernel_rfl) (by kernel_rfl) ho5.reads ⟨_, rfl, conv_str (e := 5) (by kernel_rfl) (by kernel_rfl) (by kernel_rfl) ho8.reads ⟨_, rfl, _, eqS_strNe, fun h => (by rw [beq_toListBytes] at h; simp at h), fun _ => ⟨fun _ => ⟨_, rfl, rfl, hg8'⟩, fun _ => ?_⟩⟩⟩
  have fin : Rets (fun v w' => v = Value.bool true ∧ Grew w w') (.returned (.bool true)) w8 := ⟨_, rfl, rfl, hg8'⟩
  refine ⟨fun _ => ⟨fun _ => ⟨fun _ => ⟨fun _ => ⟨fun _ => ⟨fun _ => ⟨fun _ => ⟨fun _ => ?_, fun h => ?_⟩, fun h => ?_⟩, fun h => ?_⟩, fun h => ?_⟩, fun h => ?_⟩, fun h => ?_⟩, fun h => ?_⟩, fun h => ?_⟩
  · rw [show (((x.p.2.1 : Nat) : Int) == ((y.p.2.1 : Nat) : Int)) = true from by rw [beq_iff_eq]; omega]; exact fin
  all_goals exfalso
  all_goals simp only [beq_self_eq_true, Bool.true_eq_false, beq_eq_false_iff_ne, ne_eq, not_true_eq_false] at h
  all_goals omega

def laidM (b : Int) : Msg := ⟨⟨5, 3, 1, b, 1, 0, [], [], []⟩, (none, 0, 0), (none, 0, 0), (none, 0, 0)⟩
theorem laidM_at {b : Int} {w : World} : (laidM b).At w := ⟨Reads.nil, Reads.nil, Reads.nil⟩
theorem laid_ok {b : Int} {w : World} : CallsW Try.prog 22 [.int .i64 b] w (Rets fun v w' => v = (laidM b).val ∧ Grew w w') := by
  refine sx22.ok ?_
  unfold sx22
  exact fun w1 hg1 => ⟨_, rfl, rfl, hg1⟩

/-- a copy in new memory -/
def MFresh (w : World) (m : MsgV) (v : Value) (w' : World) : Prop := ∃ y : Msg, v = y.val ∧ y.c = m ∧ MO w' w.heap.size y ∧ Grew w w'

theorem copied_ok {x : Msg} {w : World} (hx : x.At w) (h1 : x.c.ends.length * 8 ≤ 140737488355328) (h2 : x.c.keys.length * 8 ≤ 140737488355328) (h3 : x.c.pairs.length * 24 ≤ 140737488355328) :
    CallsW Try.prog 29 [x.val] w (Rets (MFresh w x.c)) := by
  refine sx29.ok ?_
  unfold sx29
  intro w1 hg1 w2 hg2 w3 hg3
  have hg3 := hg1.trans (hg2.trans hg3)
  have hx3 := hx.grew hg3
  refine (CloneI_ok hx3.e h1).use' fun v w4 ⟨a6, l6, c6, hv, ho4, hg4⟩ => ?_
  subst hv
  refine ⟨_, _, _, rfl, by simp [SameB], (CloneU_ok (hx3.grew hg4).k h2).use' fun v w8 ⟨a10, l10, c10, hv, ho8, hg8⟩ => ?_⟩
  subst hv
  refine ⟨_, _, _, rfl, by simp [SameB], (CloneP_ok ((hx3.grew hg4).grew hg8).p h3).use' fun v w12 ⟨a14, l14, c14, hv, ho12, hg12⟩ => ?_⟩
  subst hv
  have s3 := hg3.size; have s4 := hg4.size; have s8 := hg8.size
  exact ⟨_, _, _, rfl, _, rfl, ⟨x.c, (a6, l6, c6), (a10, l10, c10), (a14, l14, c14)⟩, rfl, rfl, ⟨(ho4.grew (hg8.trans hg12)).base s3, (ho8.grew hg12).base (by omega), ho12.base (by omega)⟩, hg3.trans (hg4.trans (hg8.trans hg12))⟩

theorem rCopied_ok {x : Msg} {w : World} (hx : x.At w) (h1 : x.c.ends.length * 8 ≤ 140737488355328) (h2 : x.c.keys.length * 8 ≤ 140737488355328) (h3 : x.c.pairs.length * 24 ≤ 140737488355328) :
    CallsW Try.prog 30 [x.val] w (Rets (MFresh w x.c)) := by
  refine sx30.ok ?_
  unfold sx30
  intro w1 hg1 w2 hg2 b3 w4 hal4
  have hg2 := hg1.trans hg2
  have ho4 := Own.alloc (E := Enc.int .i64) (l := []) hal4 (Nat.le_refl _) rfl (by decide)
  have hx4 := hx.grew (hg2.trans hal4.grew)
  have s2 := hg2.size; have s4 := hal4.grew.size
  refine append_sl elCloneI ho4 hx4.e.1 hx4.e.2.1 hx4.e.2.2.1 s4 (by simp [maxLen]; omega) (by simp; omega) ?_
  rintro v w5 ⟨a7, l7, c7, rfl, ho5, hu5, -⟩
  have hg5 : Grew w2 w5 := hal4.grew.then_own hu5 fun b hb => (ho4.blk hb).1
  refine ⟨_, _, _, rfl, fun b8 w9 hal9 => ?_⟩
  have ho9 := Own.alloc (E := Enc.int .u64) (l := []) hal9 (Nat.le_refl _) rfl (by decide)
  have hx9 := hx.grew (hg2.trans (hg5.trans hal9.grew))
  have s5 := hg5.size; have s9 := hal9.grew.size
  refine append_sl elCloneU ho9 hx9.k.1 hx9.k.2.1 hx9.k.2.2.1 s9 (by simp [maxLen]; omega) (by simp; omega) ?_
  rintro v w10 ⟨a12, l12, c12, rfl, ho10, hu10, -⟩
  have hg10 : Grew w5 w10 := hal9.grew.then_own hu10 fun b hb => (ho9.blk hb).1
  refine ⟨_, _, _, rfl, fun b13 w14 hal14 => ?_⟩
  have ho14 := Own.alloc (E := Enc.pair) (l := []) hal14 (Nat.le_refl _) rfl (by decide)
  have hx14 := hx.grew (hg2.trans (hg5.trans (hg10.trans hal14.grew)))
  have s10 := hg10.size; have s14 := hal14.grew.size
  refine append_sl elCloneP ho14 hx14.p.1 hx14.p.2.1 hx14.p.2.2.1 s14 (by simp [maxLen]; omega) (by simp; omega) ?_
  rintro v w15 ⟨a17, l17, c17, rfl, ho15, hu15, -⟩
  have hg15 : Grew w10 w15 := hal14.grew.then_own hu15 fun b hb => (ho14.blk hb).1
  rw [List.nil_append] at ho5 ho10 ho15
  exact ⟨_, _, _, rfl, _, rfl, ⟨x.c, (a7, l7, c7), (a12, l12, c12), (a17, l17, c17)⟩, rfl, rfl, ⟨(ho5.grew (hg10.trans hg15)).base s2, (ho10.grew hg15).base (by omega), ho15.base (by omega)⟩, hg2.trans (hg5.trans (hg10.trans hg15))⟩
end Go.Proofs.Ytlkfkcgnlnbdeaa
