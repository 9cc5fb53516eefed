/- What spout hands back: Form, Again. Conditions: none. -/
import Derived.Test.YtcpkneemhfnanaaGreatProg
import Derived.Test.YtcpkneemhfnanaaGreatSrcA
import Derived.Test.YtcpkneemhfnanaaGreatSxWq
namespace Go.Proofs.YtcpkneemhfnanaaGreat
open Go.Sx
set_option maxRecDepth 100000
set_option linter.unusedVariables false
set_option linter.unusedSimpArgs false
/- slices.Clone[[]int,int] -/
def sx60 (s : Option Addr) (s_n s_c : Nat) (R : Ending → World → Prop) (w : World) : Prop :=
  (((Option.isNone s) = true → R (.returned (.slice none 0 0)) w) ∧ ((Option.isNone s) = false → ∀ (b1 : Nat) (w2 : World), Alloc w w2 b1 (.cells #[] 3) → SemW Tryz.prog (Builtin.append_ #[44, 44] 44 #[.slice (some ⟨b1, 0,
    none⟩) 0 0, .slice s s_n s_c]) (fun u4 w3 => ∃ (a5 : Option Addr) (l5 c5 : Nat), u4 = .slice a5 l5 c5 ∧ R (.returned (.slice a5 l5 c5)) w3) w2))
theorem sx60.ok {s : Option Addr} {s_n s_c : Nat} {R : Ending → World → Prop} {w : World} (h : sx60 s s_n s_c R w) : CallsW Tryz.prog 60 [.slice s s_n s_c] w R :=
  callsW_of mix Tryz.func60 (by kernel_rfl) (by kernel_rfl) (Eq.mpr (by kernel_rfl : denFn Tryz.prog { sem := [7] } Tryz.f60 [.slice s s_n s_c] R w = sx60 s s_n s_c R w) h)

/- reprise/spout.check -/
def sx69 (s : Nat) (ends : Option Addr) (ends_n ends_c : Nat) (R : Ending → World → Prop) (w : World) : Prop :=
  CallsW Tryz.prog 116 [.pointer (some ⟨s, 0, none⟩)] w (RetR R fun u2 w1 => ∃ (n3 : Int), u2 = .int .i64 n3 ∧ (((((ends_n : Nat) : Int) != n3) = true → R (.returned (.int .i64 70)) w1) ∧ ((((ends_n : Nat) : Int) != n3) =
    false → ∃ (I5 : Int → World → Prop) (m5 : Int → World → Nat), I5 0 w1 ∧ ∀ (n6 : Int) (w7 : World), I5 n6 w7 → (((decide (n6 < ((ends_n : Nat) : Int))) = true → withSome ends (fun d8 => (0 ≤ n6 ∧ n6 < (ends_n : Nat)) ∧
    ∃ (n9 : Int), w7.cell? (Addr.add d8 (n6.toNat * 1)) = some (.int .i64 n9) ∧ (((decide (n9 < 0)) = true → R (.returned (.int .i64 70)) w7) ∧ ((decide (n9 < 0)) = false → CallsW Tryz.prog 63 [.pointer (some ⟨s, 0,
    none⟩), .int .i64 n6] w7 (RetR R fun u11 w10 => ∃ (n12 : Int), u11 = .int .i64 n12 ∧ (((decide (n9 > n12)) = true → R (.returned (.int .i64 70)) w10) ∧ ((decide (n9 > n12)) = false → (I5 (IntKind.i64.wrap (n6 + 1))
    w10 ∧ m5 (IntKind.i64.wrap (n6 + 1)) w10 < m5 n6 w7)))))))) ∧ ((decide (n6 < ((ends_n : Nat) : Int))) = false → R (.returned (.int .i64 0)) w7)))))
theorem sx69.ok {s : Nat} {ends : Option Addr} {ends_n ends_c : Nat} {R : Ending → World → Prop} {w : World} (h : sx69 s ends ends_n ends_c R w) : CallsW Tryz.prog 69 [.pointer (some ⟨s, 0, none⟩), .slice ends ends_n ends_c] w R :=
  callsW_of mix Tryz.func69 (by kernel_rfl) (by kernel_rfl) (Eq.mpr (by kernel_rfl : denFn Tryz.prog { known := [8], loops := [(6, { slots := [(16, .int .i64)], cells := [] })] } Tryz.f69 [.pointer (some ⟨s, 0, none⟩), .slice ends ends_n ends_c] R w = sx69 s ends ends_n ends_c R w) h)

/- reprise/spout.Forward -/
def sx70 (a : Option Addr) (a_n a_c : Nat) (b : Option Addr) (b_n b_c : Nat) (R : Ending → World → Prop) (w : World) : Prop :=
  (((((a_n : Nat) : Int) != ((b_n : Nat) : Int)) = true → R (.returned (.bool false)) w) ∧ ((((a_n : Nat) : Int) != ((b_n : Nat) : Int)) = false → ∃ (I1 : Int → World → Prop) (m1 : Int → World → Nat), I1 0 w ∧ ∀ (n2 : Int)
    (w3 : World), I1 n2 w3 → (((decide (n2 < ((a_n : Nat) : Int))) = true → withSome a (fun d4 => (0 ≤ n2 ∧ n2 < (a_n : Nat)) ∧ ∃ (n5 : Int), w3.cell? (Addr.add d4 (n2.toNat * 1)) = some (.int .i64 n5) ∧ withSome b (fun
    d6 => (0 ≤ n2 ∧ n2 < (b_n : Nat)) ∧ ∃ (n7 : Int), w3.cell? (Addr.add d6 (n2.toNat * 1)) = some (.int .i64 n7) ∧ (((decide (n7 < n5)) = true → R (.returned (.bool false)) w3) ∧ ((decide (n7 < n5)) = false → (I1
    (IntKind.i64.wrap (n2 + 1)) w3 ∧ m1 (IntKind.i64.wrap (n2 + 1)) w3 < m1 n2 w3)))))) ∧ ((decide (n2 < ((a_n : Nat) : Int))) = false → R (.returned (.bool true)) w3))))
theorem sx70.ok {a : Option Addr} {a_n a_c : Nat} {b : Option Addr} {b_n b_c : Nat} {R : Ending → World → Prop} {w : World} (h : sx70 a a_n a_c b b_n b_c R w) : CallsW Tryz.prog 70 [.slice a a_n a_c, .slice b b_n b_c] w R :=
  callsW_of mix Tryz.func70 (by kernel_rfl) (by kernel_rfl) (Eq.mpr (by kernel_rfl : denFn Tryz.prog { loops := [(4, { slots := [(14, .int .i64)], cells := [] })] } Tryz.f70 [.slice a a_n a_c, .slice b b_n b_c] R w = sx70 a a_n a_c b b_n b_c R w) h)

/- reprise/spout.between -/
def sx71 (s : Nat) (from1 : Option Addr) (from1_n from1_c : Nat) (to : Option Addr) (to_n to_c : Nat) (R : Ending → World → Prop) (w : World) : Prop :=
  ∃ (I1 : Option Addr → Nat → Nat → Int → World → Prop) (m1 : Option Addr → Nat → Nat → Int → World → Nat), I1 none 0 0 0 w ∧ ∀ (a2 : Option Addr) (l2 c2 : Nat) (n3 : Int) (w4 : World), I1 a2 l2 c2 n3 w4 → (((decide (n3 <
    ((from1_n : Nat) : Int))) = true → ∀ w5, Grew w4 w5 → withSome from1 (fun d6 => (0 ≤ n3 ∧ n3 < (from1_n : Nat)) ∧ ∃ (n7 : Int), w5.cell? (Addr.add d6 (n3.toNat * 1)) = some (.int .i64 n7) ∧ withSome to (fun d8 => (0 ≤
    n3 ∧ n3 < (to_n : Nat)) ∧ ∃ (n9 : Int), w5.cell? (Addr.add d8 (n3.toNat * 1)) = some (.int .i64 n9) ∧ CallsW Tryz.prog 117 [.pointer (some ⟨s, 0, none⟩), .int .i64 n3] w5 (RetR R fun u11 w10 => ∃ (a12 : Option Addr)
    (l12 c12 : Nat), u11 = .slice a12 l12 c12 ∧ SameB w5 w10 [(Addr.add d8 (n3.toNat * 1)), (Addr.add d6 (n3.toNat * 1))] ∧ (0 ≤ n9 ∧ n9 ≤ (c12 : Nat)) ∧ (0 ≤ n7 ∧ n7 ≤ (n9.toNat : Nat)) ∧ SemW Tryz.prog (Builtin.append_
    #[62, 62] 62 #[.slice a2 l2 c2, .slice (if c12 = n7.toNat then a12 else Option.map (fun x => Addr.add x (n7.toNat * 2)) a12) (n9.toNat - n7.toNat) (c12 - n7.toNat)]) (fun u15 w14 => ∃ (a16 : Option Addr) (l16 c16 :
    Nat), u15 = .slice a16 l16 c16 ∧ (I1 a16 l16 c16 (IntKind.i64.wrap (n3 + 1)) w14 ∧ m1 a16 l16 c16 (IntKind.i64.wrap (n3 + 1)) w14 < m1 a2 l2 c2 n3 w4)) w10)))) ∧ ((decide (n3 < ((from1_n : Nat) : Int))) = false → R
    (.returned (.slice a2 l2 c2)) w4))
theorem sx71.ok {s : Nat} {from1 : Option Addr} {from1_n from1_c : Nat} {to : Option Addr} {to_n to_c : Nat} {R : Ending → World → Prop} {w : World} (h : sx71 s from1 from1_n from1_c to to_n to_c R w) : CallsW Tryz.prog 71 [.pointer (some ⟨s, 0, none⟩), .slice from1 from1_n from1_c, .slice to to_n to_c] w R :=
  callsW_of mix Tryz.func71 (by kernel_rfl) (by kernel_rfl) (Eq.mpr (by kernel_rfl : denFn Tryz.prog { sem := [27], draws := [(5, { order := (.cons 0 (.cons 1 (.cons 2 (.cons 4 (.cons 5 (.cons 6 (.cons 7 (.cons 8 (.cons 9 (.cons 10 (.cons 11 (.cons 3 (.cons 12 (.cons 13 (.cons 14 .nil))))))))))))))), bars := [13] })], loops := [(3, { slots := [(7, .slice), (11, .int .i64)], cells := [] })] } Tryz.f71 [.pointer (some ⟨s, 0, none⟩), .slice from1 from1_n from1_c, .slice to to_n to_c] R w = sx71 s from1 from1_n from1_c to to_n to_c R w) h)

/- reprise/spout.Form -/
def sx34 (s : Nat) (from1 : Option Addr) (from1_n from1_c : Nat) (most : Int) (R : Ending → World → Prop) (w : World) : Prop :=
  CallsW Tryz.prog 69 [.pointer (some ⟨s, 0, none⟩), .slice from1 from1_n from1_c] w (RetR R fun u2 w1 => ∃ (n3 : Int), u2 = .int .i64 n3 ∧ (((n3 == 2) = true → R (.returned (.tuple #[.slice none 0 0, .slice none 0 0, .int
    .i64 n3])) w1) ∧ ((n3 == 2) = false → (((decide (most < 1)) = true → R (.returned (.tuple #[.slice none 0 0, .slice none 0 0, .int .i64 1])) w1) ∧ ((decide (most < 1)) = false → (((decide (most > 16)) = true → R
    (.returned (.tuple #[.slice none 0 0, .slice none 0 0, .int .i64 1])) w1) ∧ ((decide (most > 16)) = false → (((n3 != 0) = true → R (.returned (.tuple #[.slice none 0 0, .slice none 0 0, .int .i64 n3])) w1) ∧ ((n3 !=
    0) = false → CallsW Tryz.prog 60 [.slice from1 from1_n from1_c] w1 (RetR R fun u6 w5 => ∃ (a7 : Option Addr) (l7 c7 : Nat), u6 = .slice a7 l7 c7 ∧ ∃ (I9 : Int → World → Prop) (m9 : Int → World → Nat), I9 0 w5 ∧ ∀ (n10
    : Int) (w11 : World), I9 n10 w11 → (((decide (n10 < ((l7 : Nat) : Int))) = true → CallsW Tryz.prog 74 [.pointer (some ⟨s, 0, none⟩), .int .i64 n10] w11 (RetR R fun u13 w12 => ∃ (b14 : Bool), u13 = .bool b14 ∧ ((b14 =
    true → ∀ w16, Grew w12 w16 → withSome a7 (fun d17 => (0 ≤ n10 ∧ n10 < (l7 : Nat)) ∧ ∃ (n18 : Int), w16.cell? (Addr.add d17 (n10.toNat * 1)) = some (.int .i64 n18) ∧ ∀ n19 : Int, n19 = IntKind.i64.wrap (n18 + most) →
    CallsW Tryz.prog 63 [.pointer (some ⟨s, 0, none⟩), .int .i64 n10] w16 (RetR R fun u21 w20 => ∃ (n22 : Int), u21 = .int .i64 n22 ∧ SameB w16 w20 [(Addr.add d17 (n10.toNat * 1))] ∧ withSome a7 (fun d24 => (0 ≤ n10 ∧ n10
    < (l7 : Nat)) ∧ RoomAt w20 (Addr.add d24 (n10.toNat * 1)) 0 [.int .i64 (if (n22 : Int) < n19 then n22 else n19)] ∧ ∀ w25, w25 = setCells w20 (Addr.add d24 (n10.toNat * 1)) 0 [.int .i64 (if (n22 : Int) < n19 then n22
    else n19)] → (I9 (IntKind.i64.wrap (n10 + 1)) w25 ∧ m9 (IntKind.i64.wrap (n10 + 1)) w25 < m9 n10 w11))))) ∧ (b14 = false → (I9 (IntKind.i64.wrap (n10 + 1)) w12 ∧ m9 (IntKind.i64.wrap (n10 + 1)) w12 < m9 n10 w11))))) ∧
    ((decide (n10 < ((l7 : Nat) : Int))) = false → CallsW Tryz.prog 71 [.pointer (some ⟨s, 0, none⟩), .slice from1 from1_n from1_c, .slice a7 l7 c7] w11 (RetR R fun u27 w26 => ∃ (a28 : Option Addr) (l28 c28 : Nat), u27 =
    .slice a28 l28 c28 ∧ R (.returned (.tuple #[.slice a7 l7 c7, .slice a28 l28 c28, .int .i64 0])) w26)))))))))))))
theorem sx34.ok {s : Nat} {from1 : Option Addr} {from1_n from1_c : Nat} {most : Int} {R : Ending → World → Prop} {w : World} (h : sx34 s from1 from1_n from1_c most R w) : CallsW Tryz.prog 34 [.pointer (some ⟨s, 0, none⟩), .slice from1 from1_n from1_c, .int .i64 most] w R :=
  callsW_of mix Tryz.func34 (by kernel_rfl) (by kernel_rfl) (Eq.mpr (by kernel_rfl : denFn Tryz.prog { named := [47], draws := [(13, { order := (.cons 0 (.cons 1 (.cons 2 (.cons 3 (.cons 4 (.cons 5 (.cons 6 (.cons 7 (.cons 8 (.cons 9 (.cons 10 (.cons 11 (.cons 12 (.cons 13 .nil)))))))))))))), bars := [13] })], loops := [(10, { slots := [(34, .int .i64)], cells := [] })] } Tryz.f34 [.pointer (some ⟨s, 0, none⟩), .slice from1 from1_n from1_c, .int .i64 most] R w = sx34 s from1 from1_n from1_c most R w) h)

/- reprise/spout.Again -/
def sx32 (s : Nat) (from1 : Option Addr) (from1_n from1_c : Nat) (to : Option Addr) (to_n to_c : Nat) (R : Ending → World → Prop) (w : World) : Prop :=
  ∀ (b1 : Nat) (w2 : World), Alloc w w2 b1 (.cells #[.slice from1 from1_n from1_c, .slice to to_n to_c] 44) → ∃ (I3 : Int → World → Prop) (m3 : Int → World → Nat), I3 0 w2 ∧ ∀ (n4 : Int) (w5 : World), I3 n4 w5 → (((decide
    (n4 < ((2 : Nat) : Int))) = true → (0 ≤ n4 ∧ n4 < (2 : Nat)) ∧ ∃ (a6 : Option Addr) (l6 c6 : Nat), w5.cell? (Addr.add (⟨b1, 0, none⟩ : Addr) (n4.toNat * 1)) = some (.slice a6 l6 c6) ∧ CallsW Tryz.prog 69 [.pointer
    (some ⟨s, 0, none⟩), .slice a6 l6 c6] w5 (RetR R fun u8 w7 => ∃ (n9 : Int), u8 = .int .i64 n9 ∧ (((n9 != 0) = true → R (.returned (.tuple #[.slice none 0 0, .int .i64 n9])) w7) ∧ ((n9 != 0) = false → (I3
    (IntKind.i64.wrap (n4 + 1)) w7 ∧ m3 (IntKind.i64.wrap (n4 + 1)) w7 < m3 n4 w5))))) ∧ ((decide (n4 < ((2 : Nat) : Int))) = false → CallsW Tryz.prog 70 [.slice from1 from1_n from1_c, .slice to to_n to_c] w5 (RetR R fun
    u12 w11 => ∃ (b13 : Bool), u12 = .bool b13 ∧ (((!b13) = true → R (.returned (.tuple #[.slice none 0 0, .int .i64 70])) w11) ∧ ((!b13) = false → CallsW Tryz.prog 71 [.pointer (some ⟨s, 0, none⟩), .slice from1 from1_n
    from1_c, .slice to to_n to_c] w11 (RetR R fun u16 w15 => ∃ (a17 : Option Addr) (l17 c17 : Nat), u16 = .slice a17 l17 c17 ∧ R (.returned (.tuple #[.slice a17 l17 c17, .int .i64 0])) w15))))))
theorem sx32.ok {s : Nat} {from1 : Option Addr} {from1_n from1_c : Nat} {to : Option Addr} {to_n to_c : Nat} {R : Ending → World → Prop} {w : World} (h : sx32 s from1 from1_n from1_c to to_n to_c R w) : CallsW Tryz.prog 32 [.pointer (some ⟨s, 0, none⟩), .slice from1 from1_n from1_c, .slice to to_n to_c] w R :=
  callsW_of mix Tryz.func32 (by kernel_rfl) (by kernel_rfl) (Eq.mpr (by kernel_rfl : denFn Tryz.prog { loops := [(2, { slots := [(15, .int .i64)], cells := [] })] } Tryz.f32 [.pointer (some ⟨s, 0, none⟩), .slice from1 from1_n from1_c, .slice to to_n to_c] R w = sx32 s from1 from1_n from1_c to to_n to_c R w) h)

theorem elCI : ElemOk Tryz.prog 44 3 (Enc.int .i64).sz 8 := ElemOk.mk' (z := .int .i64 0) (by kernel_rfl) (by kernel_rfl) (by kernel_rfl)
theorem CloneInt_ok {a : Option Addr} {n c : Nat} {l : List Int} {w : World} (hr : Reads w (Enc.int .i64) (a, n, c) l) (hl : l.length * 8 ≤ 140737488355328) : CallsW Tryz.prog 60 [.slice a n c] w (Rets (Fresh w 3 (Enc.int .i64) l)) := by
  refine sx60.ok ?_
  unfold sx60
  refine ⟨fun h => ?_, fun h b w1 hal => ?_⟩
  · have hn : a = none := by simpa using h
    have hl0 : l = [] := by
      cases l with
      | nil => rfl
      | cons x l => obtain ⟨d, hd, -⟩ := hr.1 0 x rfl; rw [hn] at hd; cases hd
    subst hl0
    exact ⟨_, rfl, none, 0, 0, rfl, Own.nil _ _ _ _, Grew.refl _⟩
  · have hr1 := hr.grew hal.grew
    have ho : Own w1 w.heap.size 3 (Enc.int .i64) (some ⟨b, 0, none⟩) 0 0 [] := Own.alloc (l := []) hal (Nat.le_refl _) rfl (by simp [maxLen])
    refine append_sl elCI ho hr1.1 hr1.2.1 hr1.2.2.1 hal.grew.size (by simp only [maxLen, List.length_nil]; omega) (by simpa using hl) ?_
    rintro v w2 ⟨a2, n2, c2, rfl, ho2, hu2, hb2⟩
    exact ⟨_, _, _, rfl, _, rfl, a2, n2, c2, rfl, by simpa using ho2, hal.grew.then_own hu2 fun b hb => (ho.blk hb).1⟩
theorem i64cell {w : World} {d : Addr} {k : Nat} {x : Int} (h : CellsAt w (d.add (k * (Enc.int .i64).sz)) 0 ((Enc.int .i64).f x)) : w.cell? (Addr.add d (((k : Nat) : Int).toNat * 1)) = some (.int .i64 x) := by
  have := cellsAt_get h 0 _ rfl
  simpa [Enc.int, Addr.add_zero'] using this
theorem scheck_ok {w : World} {B : Nat} {x : SrcX} {v : SrcV} {a : Option Addr} {n c : Nat} {l : List Int} (h : SrA w B x v) (hr : Reads w (Enc.int .i64) (a, n, c) l) :
    CallsW Tryz.prog 69 [.pointer (some ⟨x.p, 0, none⟩), .slice a n c] w (Rets fun u w' => u = .int .i64 (endsE v l) ∧ w' = w) := by
  refine sx69.ok ?_
  unfold sx69
  have hn : n = l.length := hr.2.1
  subst hn
  refine (SParts_ok h).use fun u w1 ⟨hv, hw⟩ => ?_
  subst hv; subst hw
  have hp := h.fits.parts
  have bad : endsE v l ≠ 0 → Rets (fun u w' => u = .int .i64 (endsE v l) ∧ w' = w1) (.returned (.int .i64 70)) w1 := fun hb => ⟨_, rfl, by rw [endsE_bad hb], rfl⟩
  refine ⟨_, rfl, fun hne => bad fun h0 => ?_, fun heq => ?_⟩
  · rw [endsE_ok] at h0; simp [h0.1] at hne
  have hlen : l.length = v.parts.length := by simp at heq; omega
  refine ⟨fun i w' => w' = w1 ∧ ∃ k : Nat, i = k ∧ k ≤ l.length ∧ ∀ (j : Nat) (e : Int), j < k → l[j]? = some e → 0 ≤ e ∧ e ≤ v.len j, fun i _ => l.length - i.toNat, ⟨rfl, 0, rfl, Nat.zero_le _, fun j e hj => by omega⟩, ?_⟩
  rintro n6 w7 ⟨rfl, k, rfl, hk, hall⟩
  refine ⟨fun hlt => ?_, fun hge => ?_⟩
  · simp only [decide_eq_true_eq] at hlt
    obtain ⟨d, e, rfl, he, hc⟩ := hr.at0 (k := k) (by omega)
    have hw : IntKind.i64.wrap ((k : Int) + 1) = ((k + 1 : Nat) : Int) := by rw [IntKind.wrap_i64]; omega
    rw [withSome]
    refine ⟨⟨by omega, by omega⟩, _, i64cell hc, fun h1 => bad fun h0 => ?_, fun h1 => (SLen_ok h).use fun u w10 ⟨hv, hw'⟩ => ?_⟩
    · simp only [decide_eq_true_eq] at h1
      have := (endsE_ok.1 h0).2 k e he; omega
    · subst hv; subst hw'
      simp only [decide_eq_false_iff_not] at h1
      refine ⟨_, rfl, fun h2 => bad fun h0 => ?_, fun h2 => ⟨⟨rfl, k + 1, hw, by omega, fun j y hj hy => ?_⟩, by simp only [hw]; omega⟩⟩
      · simp only [decide_eq_true_eq] at h2
        have := (endsE_ok.1 h0).2 k e he; omega
      · simp only [decide_eq_false_iff_not] at h2
        by_cases hjk : j = k
        · subst hjk; rw [he] at hy; cases hy; omega
        · exact hall j y (by omega) hy
  · simp only [decide_eq_false_iff_not] at hge
    refine ⟨_, rfl, ?_, rfl⟩
    rw [endsE_ok.2 ⟨hlen, fun i e he => hall i e (by have := (List.getElem?_eq_some_iff.1 he).1; omega) he⟩]
theorem Forward_ok {a b : Option Addr} {n c m d : Nat} {l r : List Int} {w : World} (hr : Reads w (Enc.int .i64) (a, n, c) l) (hi : Reads w (Enc.int .i64) (b, m, d) r) (hl : l.length ≤ 9223372036854775806) :
    CallsW Tryz.prog 70 [.slice a n c, .slice b m d] w (Rets fun u w' => u = .bool (forwB l r) ∧ w' = w) := by
  refine sx70.ok ?_
  unfold sx70
  have hn : n = l.length := hr.2.1
  subst hn
  have hm : m = r.length := hi.2.1
  subst hm
  have bad : forwB l r ≠ true → Rets (fun u w' => u = .bool (forwB l r) ∧ w' = w) (.returned (.bool false)) w := fun hb => ⟨_, rfl, by cases hfb : forwB l r with | false => rfl | true => exact (hb hfb).elim, rfl⟩
  refine ⟨fun hne => bad fun h0 => ?_, fun heq => ?_⟩
  · rw [forwB_iff] at h0; simp [h0.1] at hne
  have hlen : l.length = r.length := by simp at heq; omega
  refine ⟨fun i w' => w' = w ∧ ∃ k : Nat, i = k ∧ k ≤ l.length ∧ ∀ (j : Nat) (e f : Int), j < k → l[j]? = some e → r[j]? = some f → e ≤ f, fun i _ => l.length - i.toNat, ⟨rfl, 0, rfl, Nat.zero_le _, fun j e f hj => by omega⟩, ?_⟩
  rintro n6 w7 ⟨rfl, k, rfl, hk, hall⟩
  refine ⟨fun hlt => ?_, fun hge => ?_⟩
  · simp only [decide_eq_true_eq] at hlt
    obtain ⟨d1, e, rfl, he, hc⟩ := hr.at0 (k := k) (by omega)
    obtain ⟨d2, f, rfl, hf, hc2⟩ := hi.at0 (k := k) (by omega)
    have hw : IntKind.i64.wrap ((k : Int) + 1) = ((k + 1 : Nat) : Int) := by rw [IntKind.wrap_i64]; omega
    rw [withSome]
    refine ⟨⟨by omega, by omega⟩, _, i64cell hc, ?_⟩
    rw [withSome]
    refine ⟨⟨by omega, by omega⟩, _, i64cell hc2, fun h1 => bad fun h0 => ?_, fun h1 => ⟨⟨rfl, k + 1, hw, by omega, fun j y z hj hy hz => ?_⟩, by simp only [hw]; omega⟩⟩
    · simp only [decide_eq_true_eq] at h1
      have := (forwB_iff.1 h0).2 k e f he hf; omega
    · simp only [decide_eq_false_iff_not] at h1
      by_cases hjk : j = k
      · subst hjk; rw [he] at hy; rw [hf] at hz; cases hy; cases hz; omega
      · exact hall j y z (by omega) hy hz
  · simp only [decide_eq_false_iff_not] at hge
    refine ⟨_, rfl, ?_, rfl⟩
    rw [forwB_iff.2 ⟨hlen, fun i e f he hf => hall i e f (by have := (List.getElem?_eq_some_iff.1 he).1; omega) he hf⟩]
theorem getD_of {l : List Int} {i : Nat} {e : Int} (h : l[i]? = some e) : l.getD i 0 = e := by rw [List.getD_eq_getElem?_getD, h]; rfl
theorem between_ok {w : World} {B : Nat} {x : SrcX} {v : SrcV} {a b : Option Addr} {n c m d : Nat} {f t : List Int} (h : SrA w B x v) (hr : Reads w (Enc.int .i64) (a, n, c) f) (hi : Reads w (Enc.int .i64) (b, m, d) t) (hlen : f.length = t.length) (hf4 : f.length ≤ 4)
    (hft : ∀ (i : Nat) (e g : Int), f[i]? = some e → t[i]? = some g → 0 ≤ e ∧ e ≤ g ∧ g ≤ v.len i) :
    CallsW Tryz.prog 71 [.pointer (some ⟨x.p, 0, none⟩), .slice a n c, .slice b m d] w (Rets (Fresh w 43 Enc.rcd (btwV v f t f.length))) := by
  refine sx71.ok ?_
  unfold sx71
  have hn : n = f.length := hr.2.1
  subst hn
  have hm : m = t.length := hi.2.1
  subst hm
  have hfit := h.fits
  refine ⟨fun a n c i w' => ∃ k : Nat, i = k ∧ k ≤ f.length ∧ Own w' w.heap.size 43 Enc.rcd a n c (btwV v f t k) ∧ Grew w w', fun _ _ _ i _ => f.length - i.toNat, ⟨0, rfl, Nat.zero_le _, by simpa [btwV] using Own.nil _ _ _ _, Grew.refl _⟩, ?_⟩
  rintro a2 l2 c2 n3 w4 ⟨k, rfl, hk, ho4, hg4⟩
  refine ⟨fun hlt w5 hg5 => ?_, fun hge => ?_⟩
  · simp only [decide_eq_true_eq] at hlt
    have hg5' := hg4.trans hg5
    obtain ⟨d1, e, rfl, he, hc⟩ := (hr.grew hg5').at0 (k := k) (by omega)
    obtain ⟨d2, g, rfl, hg, hc2⟩ := (hi.grew hg5').at0 (k := k) (by omega)
    obtain ⟨q1, q2, q3⟩ := hft k e g he hg
    have hw : IntKind.i64.wrap ((k : Int) + 1) = ((k + 1 : Nat) : Int) := by rw [IntKind.wrap_i64]; omega
    rw [withSome]
    refine ⟨⟨by omega, by omega⟩, _, i64cell hc, ?_⟩
    rw [withSome]
    refine ⟨⟨by omega, by omega⟩, _, i64cell hc2, (Log_ok (h.grew hg5')).use fun u w10 ⟨a12, l12, c12, hv, ho12, hg10⟩ => ?_⟩
    subst hv
    have b1 := World.block_lt_of_cell? w5 _ (i64cell hc)
    have b2 := World.block_lt_of_cell? w5 _ (i64cell hc2)
    have hll := ho12.len
    have hle := ho12.le
    have hlog := log_lenP (v := v) (k : Int)
    have hl256 := (log_256 hfit (k : Int)).1
    refine ⟨_, _, _, rfl, ⟨hg10.block _ b2, hg10.block _ b1, trivial⟩, ⟨by omega, by omega⟩, ⟨by omega, by omega⟩, ?_⟩
    have hcut : Reads w10 Enc.rcd (if c12 = e.toNat then a12 else Option.map (fun x => Addr.add x (e.toNat * 2)) a12, g.toNat - e.toNat, c12 - e.toNat) (btwI v f t k) := by
      have := ho12.reads.cut (i := e.toNat) (j := g.toNat) (by omega) (by omega)
      unfold btwI
      rw [getD_of he, getD_of hg]
      exact this
    have ho10 := ho4.grew (hg5.trans hg10)
    have hbl := btwV_len hfit f t k
    have hbi := btwI_len hfit f t k
    refine append_sl elRec ho10 hcut.1 hcut.2.1 hcut.2.2.1 (hg5'.trans hg10).size (by simp only [maxLen]; omega) (by omega) ?_
    rintro v15 w14 ⟨a16, l16, c16, rfl, ho16, hu16, hb16⟩
    rw [← btwV_succ] at ho16
    exact ⟨_, _, _, rfl, ⟨k + 1, hw, by omega, ho16, (hg5'.trans hg10).then_own hu16 fun b hb => (ho10.blk hb).1⟩, by simp only [hw]; omega⟩
  · simp only [decide_eq_false_iff_not] at hge
    have hkn : k = f.length := by omega
    subst hkn
    exact ⟨_, rfl, _, _, _, rfl, ho4, hg4⟩
def FormR (w : World) (r : FormV) (u : Value) (w' : World) : Prop := ∃ (a : Option Addr) (n c : Nat) (a2 : Option Addr) (n2 c2 : Nat), u = .tuple #[.slice a n c, .slice a2 n2 c2, .int .i64 r.err] ∧ Own w' w.heap.size 3 (Enc.int .i64) a n c r.to ∧ Own w' w.heap.size 43 Enc.rcd a2 n2 c2 r.recs ∧ Grew w w'
theorem Form_ok {w : World} {B : Nat} {x : SrcX} {v : SrcV} {a : Option Addr} {n c : Nat} {f : List Int} {most : Int} (h : SrA w B x v) (hr : Reads w (Enc.int .i64) (a, n, c) f) :
    CallsW Tryz.prog 34 [.pointer (some ⟨x.p, 0, none⟩), .slice a n c, .int .i64 most] w (Rets (FormR w (formV v f most))) := by
  refine sx34.ok ?_
  unfold sx34
  have hn : n = f.length := hr.2.1
  subst hn
  have hfit := h.fits
  have none3 : ∀ {y : World} {k : Int}, (formV v f most) = ⟨[], [], k⟩ → Grew w y → Rets (FormR w (formV v f most)) (.returned (.tuple #[.slice none 0 0, .slice none 0 0, .int .i64 k])) y := fun he hg => ⟨_, rfl, none, 0, 0, none, 0, 0, by rw [he], by rw [he]; exact Own.nil _ _ _ _, by rw [he]; exact Own.nil _ _ _ _, hg⟩
  refine (scheck_ok h hr).use fun u w1 ⟨hv, hw⟩ => ?_
  subst hv; subst hw
  have e01 : endsE v f = 0 ∨ endsE v f = 70 := by
    by_cases he : endsE v f = 0
    · exact .inl he
    · exact .inr (endsE_bad he)
  refine ⟨_, rfl, fun h2 => ?_, fun _ => ⟨fun h1 => ?_, fun h1 => ⟨fun h16 => ?_, fun h16 => ⟨fun hne => ?_, fun heq => ?_⟩⟩⟩⟩
  · exfalso; simp only [beq_iff_eq] at h2; omega
  · simp only [decide_eq_true_eq] at h1
    exact none3 (by unfold formV; rw [if_pos (.inl h1)]) (Grew.refl _)
  · simp only [decide_eq_true_eq] at h16
    exact none3 (by unfold formV; rw [if_pos (.inr h16)]) (Grew.refl _)
  · simp only [decide_eq_false_iff_not] at h1 h16
    have hx : endsE v f ≠ 0 := by simpa using hne
    refine none3 ?_ (Grew.refl _)
    unfold formV; rw [if_neg (by omega), if_neg hx, endsE_bad hx]
  simp only [decide_eq_false_iff_not] at h1 h16
  have he0 : endsE v f = 0 := by simpa using heq
  obtain ⟨hfl, hfe⟩ := endsE_ok.1 he0
  have hp4 := hfit.parts
  have hF : formV v f most = ⟨toV v most f, btwV v f (toV v most f) f.length, 0⟩ := by unfold formV; rw [if_neg (by omega), if_pos he0]
  refine (CloneInt_ok hr (by omega)).use fun u w5 ⟨a7, l7, c7, hv, ho7, hg5⟩ => ?_
  subst hv
  have hl7 : l7 = f.length := ho7.len
  subst hl7
  refine ⟨_, _, _, rfl, fun i w' => ∃ k : Nat, i = k ∧ k ≤ f.length ∧ Own w' w1.heap.size 3 (Enc.int .i64) a7 f.length c7 ((toV v most f).take k ++ f.drop k) ∧ Grew w1 w', fun i _ => f.length - i.toNat, ⟨0, rfl, Nat.zero_le _, by simpa using ho7, hg5⟩, ?_⟩
  rintro n10 w11 ⟨k, rfl, hk, ho11, hg11⟩
  refine ⟨fun hlt => (Up_ok (h.grew hg11)).use fun u w12 ⟨hv, hw⟩ => ?_, fun hge => ?_⟩
  · subst hv; subst hw
    simp only [decide_eq_true_eq] at hlt
    have hw : IntKind.i64.wrap ((k : Int) + 1) = ((k + 1 : Nat) : Int) := by rw [IntKind.wrap_i64]; omega
    obtain ⟨e, he⟩ : ∃ e, f[k]? = some e := ⟨_, List.getElem?_eq_getElem (show k < f.length by omega)⟩
    have hte := toV_get (v := v) (most := most) he
    have hdrop : f.drop k = e :: f.drop (k + 1) := List.drop_eq_getElem?_toList_append ▸ (by rw [he]; rfl)
    have htl : ((toV v most f).take k).length = k := by rw [List.length_take, toV_len]; omega
    have hnext : ∀ y, y = toI v most k e → (toV v most f).take (k + 1) ++ f.drop (k + 1) = (toV v most f).take k ++ (y :: f.drop (k + 1)) := by
      intro y hy; rw [take_snoc hte, hy, List.append_assoc]; rfl
    have hlen := len_256 hfit (k : Int)
    obtain ⟨q1, q2⟩ := hfe k e he
    refine ⟨_, rfl, fun hup w16 hg16 => ?_, fun hup => ?_⟩
    · have ho16 := ho11.grew hg16
      have hat : ((toV v most f).take k ++ f.drop k)[k]? = some e := by rw [List.getElem?_append_right (by omega), htl, hdrop]; simp
      obtain ⟨d, y, hd, hy, hyc⟩ := ho16.reads.at0 (k := k) (by omega)
      rw [hat] at hy; cases hy
      rw [hd, withSome]
      refine ⟨⟨by omega, by omega⟩, _, i64cell hyc, fun n19 h19 => (SLen_ok (h.grew (hg11.trans hg16))).use fun u w20 ⟨hv, hw'⟩ => ?_⟩
      subst hv; subst hw'
      obtain ⟨d', hd', hroom, hset, hu⟩ := ho16.set (i := k) (by rw [List.length_append, htl, List.length_drop]; omega) (toI v most k e)
      rw [hd] at hd'; cases hd'
      have hval : (if v.len (k : Int) < n19 then v.len (k : Int) else n19) = toI v most k e := by
        unfold toI; rw [if_pos hup, h19, IntKind.wrap_i64]
        split <;> omega
      refine ⟨_, rfl, ⟨rfl, trivial⟩, ?_⟩
      rw [withSome, hval]
      refine ⟨⟨by omega, by omega⟩, by simpa [Enc.int] using hroom, ?_⟩
      rintro w25 rfl
      have hset' : ((toV v most f).take k ++ f.drop k).set k (toI v most k e) = (toV v most f).take (k + 1) ++ f.drop (k + 1) := by
        rw [hnext _ rfl, hdrop, List.set_append_right _ _ (by omega), htl, Nat.sub_self, List.set_cons_zero]
      rw [hset'] at hset
      refine ⟨⟨k + 1, hw, by omega, by rw [← hd]; simpa [Enc.int] using hset, (hg11.trans hg16).then_own (S := Blk a7) (by simpa [Enc.int] using hu) fun b hb => (ho16.blk hb).1⟩, by simp only [hw]; omega⟩
    · refine ⟨⟨k + 1, hw, by omega, ?_, hg11⟩, by simp only [hw]; omega⟩
      rw [hnext e (by unfold toI; rw [if_neg (by simpa using hup)]), ← hdrop]
      exact ho11
  · simp only [decide_eq_false_iff_not] at hge
    have hkn : k = f.length := by omega
    subst hkn
    rw [List.take_of_length_le (by rw [toV_len]; omega), List.drop_length, List.append_nil] at ho11
    refine (between_ok (h.grew hg11) (hr.grew hg11) ho11.reads (by rw [toV_len]) (by omega) fun i e g he hg => ?_).use fun u w26 ⟨a28, l28, c28, hv, ho28, hg26⟩ => ?_
    · rw [toV_get he] at hg; cases hg
      obtain ⟨q1, q2⟩ := hfe i e he
      unfold toI
      split <;> omega
    · subst hv
      exact ⟨_, _, _, rfl, _, rfl, _, _, _, _, _, _, by rw [hF], by rw [hF]; exact ho11.grew hg26, by rw [hF]; exact ho28.base hg11.size, hg11.trans hg26⟩
def againV (v : SrcV) (f t : List Int) : List RecV × Int := if endsE v f = 0 ∧ endsE v t = 0 ∧ forwB f t = true then (btwV v f t f.length, 0) else ([], 70)
theorem Again_ok {w : World} {B : Nat} {x : SrcX} {v : SrcV} {a b : Option Addr} {n c m d : Nat} {f t : List Int} (h : SrA w B x v) (hr : Reads w (Enc.int .i64) (a, n, c) f) (hi : Reads w (Enc.int .i64) (b, m, d) t) :
    CallsW Tryz.prog 32 [.pointer (some ⟨x.p, 0, none⟩), .slice a n c, .slice b m d] w (Rets fun u w' => ∃ a' n' c', u = .tuple #[.slice a' n' c', .int .i64 (againV v f t).2] ∧ Own w' w.heap.size 43 Enc.rcd a' n' c' (againV v f t).1 ∧ Grew w w') := by
  refine sx32.ok ?_
  unfold sx32
  intro b1 w2 hal
  have hc0 := hal.cell (j := 0) (v := .slice a n c) rfl
  have hc1 := hal.cell (j := 1) (v := .slice b m d) rfl
  have hfit := h.fits
  have bad : ∀ {y : World}, ¬ (endsE v f = 0 ∧ endsE v t = 0 ∧ forwB f t = true) → Grew w y → Rets (fun u w' => ∃ a' n' c', u = .tuple #[.slice a' n' c', .int .i64 (againV v f t).2] ∧ Own w' w.heap.size 43 Enc.rcd a' n' c' (againV v f t).1 ∧ Grew w w') (.returned (.tuple #[.slice none 0 0, .int .i64 70])) y := fun hb hg => ⟨_, rfl, none, 0, 0, by unfold againV; rw [if_neg hb], by unfold againV; rw [if_neg hb]; exact Own.nil _ _ _ _, hg⟩
  refine ⟨fun i w' => w' = w2 ∧ ((i = 0) ∨ (i = 1 ∧ endsE v f = 0) ∨ (i = 2 ∧ endsE v f = 0 ∧ endsE v t = 0)), fun i _ => 2 - i.toNat, ⟨rfl, .inl rfl⟩, ?_⟩
  rintro n4 w5 ⟨rfl, hi4⟩
  have hx2 := h.grew hal.grew
  refine ⟨fun hlt => ?_, fun hge => ?_⟩
  · simp only [decide_eq_true_eq] at hlt
    rcases hi4 with rfl | ⟨rfl, e0⟩ | ⟨rfl, -⟩
    · refine ⟨⟨by omega, by omega⟩, _, _, _, by simpa [add_mk] using hc0, (scheck_ok hx2 (hr.grew hal.grew)).use fun u w7 ⟨hv, hw⟩ => ?_⟩
      subst hv; subst hw
      refine ⟨_, rfl, fun hne => ?_, fun heq => ⟨⟨rfl, .inr (.inl ⟨by decide, by simpa using heq⟩)⟩, by show (2 - (IntKind.i64.wrap _).toNat) < (2 - (Int.toNat _)); decide⟩⟩
      have hx : endsE v f ≠ 0 := by simpa using hne
      rw [endsE_bad hx]; exact bad (fun h => hx h.1) hal.grew
    · refine ⟨⟨by omega, by omega⟩, _, _, _, by simpa [add_mk] using hc1, (scheck_ok hx2 (hi.grew hal.grew)).use fun u w7 ⟨hv, hw⟩ => ?_⟩
      subst hv; subst hw
      refine ⟨_, rfl, fun hne => ?_, fun heq => ⟨⟨rfl, .inr (.inr ⟨by decide, e0, by simpa using heq⟩)⟩, by show (2 - (IntKind.i64.wrap _).toNat) < (2 - (Int.toNat _)); decide⟩⟩
      have hx : endsE v t ≠ 0 := by simpa using hne
      rw [endsE_bad hx]; exact bad (fun h => hx h.2.1) hal.grew
    · omega
  · simp only [decide_eq_false_iff_not] at hge
    rcases hi4 with rfl | ⟨rfl, e0⟩ | ⟨rfl, e0, e1⟩
    · omega
    · omega
    have f0 := endsE_ok.1 e0
    have f1 := endsE_ok.1 e1
    have hp4 := hfit.parts
    refine (Forward_ok (hr.grew hal.grew) (hi.grew hal.grew) (by omega)).use fun u w11 ⟨hv, hw⟩ => ?_
    subst hv; subst hw
    refine ⟨_, rfl, fun hne => bad (fun h => by simp [h.2.2] at hne) hal.grew, fun heq => ?_⟩
    have hfw : forwB f t = true := by simpa using heq
    obtain ⟨hl, hff⟩ := forwB_iff.1 hfw
    refine (between_ok hx2 (hr.grew hal.grew) (hi.grew hal.grew) hl (by omega) fun i e g he hg => ⟨(f0.2 i e he).1, hff i e g he hg, (f1.2 i g hg).2⟩).use fun u w15 ⟨a17, l17, c17, hv, ho17, hg15⟩ => ?_
    subst hv
    exact ⟨_, _, _, rfl, _, rfl, _, _, _, by unfold againV; rw [if_pos ⟨e0, e1, hfw⟩], by unfold againV; rw [if_pos ⟨e0, e1, hfw⟩]; exact ho17.base hal.grew.size, hal.grew.trans hg15⟩
end Go.Proofs.YtcpkneemhfnanaaGreat
