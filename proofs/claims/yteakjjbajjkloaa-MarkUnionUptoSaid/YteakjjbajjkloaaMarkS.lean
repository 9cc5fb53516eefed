/- What the reference's Decode hands back; the law's keys and same. Conditions: none. -/
import Derived.Test.YteakjjbajjkloaaProg
import Derived.Test.YteakjjbajjkloaaMarkR
import Derived.Test.YteakjjbajjkloaaSxP
namespace Go.Proofs.Yteakjjbajjkloaa
open Go.Sx
set_option maxRecDepth 100000
set_option linter.unusedVariables false
set_option linter.unusedSimpArgs false
/- reprise/repriseref12.count -/
def sx35 (b : Option Addr) (b_n b_c : Nat) (R : Ending → World → Prop) (w : World) : Prop :=
  CallsW Try.prog 36 [.slice b b_n b_c] w (RetR R fun u2 w1 => ∃ (n3 : Int) (n4 : Int) (n5 : Int), u2 = .tuple #[.int .u64 n3, .int .i64 n4, .int .i64 n5] ∧ (((n5 != 0) = true → R (.returned (.tuple #[.int .i64 0, .slice
    none 0 0, .int .i64 n5])) w1) ∧ ((n5 != 0) = false → (((decide (n3 > 1099511627776)) = true → R (.returned (.tuple #[.int .i64 0, .slice none 0 0, .int .i64 4])) w1) ∧ ((decide (n3 > 1099511627776)) = false → (0 ≤ n4
    ∧ n4 ≤ (b_n : Nat)) ∧ ∀ w7, Grew w1 w7 → R (.returned (.tuple #[.int .i64 (IntKind.i64.wrap n3), .slice (if b_c = n4.toNat then b else Option.map (fun x => Addr.add x (n4.toNat * 1)) b) (b_n - n4.toNat) (b_c -
    n4.toNat), .int .i64 0])) w7)))))
theorem sx35.ok {b : Option Addr} {b_n b_c : Nat} {R : Ending → World → Prop} {w : World} (h : sx35 b b_n b_c R w) : CallsW Try.prog 35 [.slice b b_n b_c] w R :=
  callsW_of mix Try.func35 (by kernel_rfl) (by kernel_rfl) (Eq.mpr (by kernel_rfl : denFn Try.prog {} Try.f35 [.slice b b_n b_c] R w = sx35 b b_n b_c R w) h)

/- reprise/repriseref12.Decode -/
def sx17 (d : Option Addr) (d_n d_c : Nat) (R : Ending → World → Prop) (w : World) : Prop :=
  ∀ w1, Grew w w1 → CallsW Try.prog 35 [.slice d d_n d_c] w1 (RetR R fun u3 w2 => ∃ (n4 : Int) (a5 : Option Addr) (l5 c5 : Nat) (n6 : Int), u3 = .tuple #[.int .i64 n4, .slice a5 l5 c5, .int .i64 n6] ∧ (((n6 != 0) = true → R
    (.returned (.tuple #[.agg #[.int .i64 0, .int .i64 0, .slice none 0 0], .int .i64 n6])) w2) ∧ ((n6 != 0) = false → CallsW Try.prog 35 [.slice a5 l5 c5] w2 (RetR R fun u9 w8 => ∃ (n10 : Int) (a11 : Option Addr) (l11
    c11 : Nat) (n12 : Int), u9 = .tuple #[.int .i64 n10, .slice a11 l11 c11, .int .i64 n12] ∧ (((n12 != 0) = true → R (.returned (.tuple #[.agg #[.int .i64 0, .int .i64 0, .slice none 0 0], .int .i64 n12])) w8) ∧ ((n12 !=
    0) = false → CallsW Try.prog 36 [.slice a11 l11 c11] w8 (RetR R fun u15 w14 => ∃ (n16 : Int) (n17 : Int) (n18 : Int), u15 = .tuple #[.int .u64 n16, .int .i64 n17, .int .i64 n18] ∧ (((n18 != 0) = true → R (.returned
    (.tuple #[.agg #[.int .i64 0, .int .i64 0, .slice none 0 0], .int .i64 n18])) w14) ∧ ((n18 != 0) = false → (((decide (n16 > 64)) = true → R (.returned (.tuple #[.agg #[.int .i64 0, .int .i64 0, .slice none 0 0], .int
    .i64 6])) w14) ∧ ((decide (n16 > 64)) = false → (0 ≤ n17 ∧ n17 ≤ (l11 : Nat)) ∧ ∀ (b20 : Nat) (w21 : World), Alloc w14 w21 b20 (.cells #[] 38) → ∃ (I22 : Option Addr → Nat → Nat → Option Addr → Nat → Nat → Int → Int →
    Int → Option Addr → Nat → Nat → World → Prop) (m22 : Option Addr → Nat → Nat → Option Addr → Nat → Nat → Int → Int → Int → Option Addr → Nat → Nat → World → Nat), I22 (if c11 = n17.toNat then a11 else Option.map (fun
    x => Addr.add x (n17.toNat * 1)) a11) (l11 - n17.toNat) (c11 - n17.toNat) (some ⟨b20, 0, none⟩) 0 0 0 0 0 none 0 0 w21 ∧ ∀ (a23 : Option Addr) (l23 c23 : Nat) (a24 : Option Addr) (l24 c24 : Nat) (n25 : Int) (n26 :
    Int) (n27 : Int) (a28 : Option Addr) (l28 c28 : Nat) (w29 : World), I22 a23 l23 c23 a24 l24 c24 n25 n26 n27 a28 l28 c28 w29 → (((decide (n25 < IntKind.i64.wrap n16)) = true → CallsW Try.prog 36 [.slice a23 l23 c23]
    w29 (RetR R fun u31 w30 => ∃ (n32 : Int) (n33 : Int) (n34 : Int), u31 = .tuple #[.int .u64 n32, .int .i64 n33, .int .i64 n34] ∧ (((n34 != 0) = true → R (.returned (.tuple #[.agg #[.int .i64 0, .int .i64 0, .slice none
    0 0], .int .i64 n34])) w30) ∧ ((n34 != 0) = false → ∀ (b36 : Nat) (w37 : World), Alloc w30 w37 b36 (.cells #[.int .u64 n32] 38) → SemW Try.prog (Builtin.append_ #[22, 22] 22 #[.slice a24 l24 c24, .slice (some ⟨b36, 0,
    none⟩) 1 1]) (fun u39 w38 => ∃ (a40 : Option Addr) (l40 c40 : Nat), u39 = .slice a40 l40 c40 ∧ (0 ≤ n33 ∧ n33 ≤ (l23 : Nat)) ∧ (I22 (if c23 = n33.toNat then a23 else Option.map (fun x => Addr.add x (n33.toNat * 1))
    a23) (l23 - n33.toNat) (c23 - n33.toNat) a40 l40 c40 (IntKind.i64.wrap (n25 + 1)) n26 n27 a28 l28 c28 w38 ∧ m22 (if c23 = n33.toNat then a23 else Option.map (fun x => Addr.add x (n33.toNat * 1)) a23) (l23 - n33.toNat)
    (c23 - n33.toNat) a40 l40 c40 (IntKind.i64.wrap (n25 + 1)) n26 n27 a28 l28 c28 w38 < m22 a23 l23 c23 a24 l24 c24 n25 n26 n27 a28 l28 c28 w29)) w37)))) ∧ ((decide (n25 < IntKind.i64.wrap n16)) = false → (((decide
    (((l23 : Nat) : Int) > 0)) = true → R (.returned (.tuple #[.agg #[.int .i64 0, .int .i64 0, .slice none 0 0], .int .i64 5])) w29) ∧ ((decide (((l23 : Nat) : Int) > 0)) = false → ∀ w41, Grew w29 w41 → CallsW Try.prog
    15 [.agg #[.int .i64 n4, .int .i64 n10, .slice a24 l24 c24]] w41 (RetR R fun u43 w42 => ∃ (b44 : Bool), u43 = .bool b44 ∧ (((!b44) = true → R (.returned (.tuple #[.agg #[.int .i64 0, .int .i64 0, .slice none 0 0],
    .int .i64 1])) w42) ∧ ((!b44) = false → R (.returned (.tuple #[.agg #[.int .i64 n4, .int .i64 n10, .slice a24 l24 c24], .int .i64 0])) w42))))))))))))))))))
theorem sx17.ok {d : Option Addr} {d_n d_c : Nat} {R : Ending → World → Prop} {w : World} (h : sx17 d d_n d_c R w) : CallsW Try.prog 17 [.slice d d_n d_c] w R :=
  callsW_of mix Try.func17 (by kernel_rfl) (by kernel_rfl) (Eq.mpr (by kernel_rfl : denFn Try.prog { locals := [2, 14], sem := [71], loops := [(15, { slots := [(0, .slice), (9, .slice), (10, .int .i64)], cells := [(2, 24, [.int .i64, .int .i64, .slice])] })] } Try.f17 [.slice d d_n d_c] R w = sx17 d d_n d_c R w) h)

/- reprise/repriselaw12.keys -/
def sx23 (a : Option Addr) (a_n a_c : Nat) (b : Option Addr) (b_n b_c : Nat) (R : Ending → World → Prop) (w : World) : Prop :=
  (((((a_n : Nat) : Int) != ((b_n : Nat) : Int)) = true → R (.returned (.bool false)) w) ∧ ((((a_n : Nat) : Int) != ((b_n : Nat) : Int)) = false → ∃ (I1 : Int → World → Prop) (m1 : Int → World → Nat), I1 0 w ∧ ∀ (n2 : Int)
    (w3 : World), I1 n2 w3 → (((decide (n2 < ((a_n : Nat) : Int))) = true → withSome a (fun d4 => (0 ≤ n2 ∧ n2 < (a_n : Nat)) ∧ ∃ (n5 : Int), w3.cell? (Addr.add d4 (n2.toNat * 1)) = some (.int .u64 n5) ∧ withSome b (fun
    d6 => (0 ≤ n2 ∧ n2 < (b_n : Nat)) ∧ ∃ (n7 : Int), w3.cell? (Addr.add d6 (n2.toNat * 1)) = some (.int .u64 n7) ∧ ∀ w8, Grew w3 w8 → (((n5 != n7) = true → R (.returned (.bool false)) w8) ∧ ((n5 != n7) = false → (I1
    (IntKind.i64.wrap (n2 + 1)) w8 ∧ m1 (IntKind.i64.wrap (n2 + 1)) w8 < m1 n2 w3)))))) ∧ ((decide (n2 < ((a_n : Nat) : Int))) = false → R (.returned (.bool true)) w3))))
theorem sx23.ok {a : Option Addr} {a_n a_c : Nat} {b : Option Addr} {b_n b_c : Nat} {R : Ending → World → Prop} {w : World} (h : sx23 a a_n a_c b b_n b_c R w) : CallsW Try.prog 23 [.slice a a_n a_c, .slice b b_n b_c] w R :=
  callsW_of mix Try.func23 (by kernel_rfl) (by kernel_rfl) (Eq.mpr (by kernel_rfl : denFn Try.prog { loops := [(4, { slots := [(5, .int .i64)], cells := [] })] } Try.f23 [.slice a a_n a_c, .slice b b_n b_c] R w = sx23 a a_n a_c b b_n b_c R w) h)

/- reprise/repriselaw12.same -/
def sx18 (a_0 : Int) (a_1 : Int) (a_2 : Option Addr) (a_2_n a_2_c : Nat) (b_0 : Int) (b_1 : Int) (b_2 : Option Addr) (b_2_n b_2_c : Nat) (R : Ending → World → Prop) (w : World) : Prop :=
  ∀ w1, Grew w w1 → ∀ w2, Grew w1 w2 → (((a_0 == b_0) = true → (((a_1 == b_1) = true → CallsW Try.prog 23 [.slice a_2 a_2_n a_2_c, .slice b_2 b_2_n b_2_c] w2 (RetR R fun u4 w3 => ∃ (b5 : Bool), u4 = .bool b5 ∧ R (.returned
    (.bool b5)) w3)) ∧ ((a_1 == b_1) = false → R (.returned (.bool false)) w2))) ∧ ((a_0 == b_0) = false → R (.returned (.bool false)) w2))
theorem sx18.ok {a_0 : Int} {a_1 : Int} {a_2 : Option Addr} {a_2_n a_2_c : Nat} {b_0 : Int} {b_1 : Int} {b_2 : Option Addr} {b_2_n b_2_c : Nat} {R : Ending → World → Prop} {w : World} (h : sx18 a_0 a_1 a_2 a_2_n a_2_c b_0 b_1 b_2 b_2_n b_2_c R w) : CallsW Try.prog 18 [.agg #[.int .i64 a_0, .int .i64 a_1, .slice a_2 a_2_n a_2_c], .agg #[.int .i64 b_0, .int .i64 b_1, .slice b_2 b_2_n b_2_c]] w R :=
  callsW_of mix Try.func18 (by kernel_rfl) (by kernel_rfl) (Eq.mpr (by kernel_rfl : denFn Try.prog { locals := [2, 3] } Try.f18 [.agg #[.int .i64 a_0, .int .i64 a_1, .slice a_2 a_2_n a_2_c], .agg #[.int .i64 b_0, .int .i64 b_1, .slice b_2 b_2_n b_2_c]] R w = sx18 a_0 a_1 a_2 a_2_n a_2_c b_0 b_1 b_2 b_2_n b_2_c R w) h)


theorem nextS_cases {most over : Int} {l : List Int} : nextS most over (l, 0) = ((takeB l).1, if most < (takeB l).1 then failS over (l.drop (takeB l).2.1.toNat, (takeB l).2.2) else (l.drop (takeB l).2.1.toNat, (takeB l).2.2)) := by
  simp only [nextS, checkS, numS_ok, decide_eq_true_eq]

def CountP (w : World) (d : Option Addr) (r : Int × RdS) (v : Value) (w' : World) : Prop := Grew w w' ∧ ∃ (x : Int) (a : Option Addr) (n c : Nat), v = .tuple #[.int .i64 x, .slice a n c, .int .i64 r.2.2] ∧ (r.2.2 = 0 → x = r.1 ∧ Reads w' (Enc.int .u8) (a, n, c) r.2.1 ∧ ∀ z, Blk a z → Blk d z)
theorem count_ok {d : Option Addr} {n c : Nat} {l : List Int} {w : World} (hr : Reads w (Enc.int .u8) (d, n, c) l) (hb : Bytes l) (hl : l.length ≤ 9223372036854775807) :
    CallsW Try.prog 35 [.slice d n c] w (Rets (CountP w d (nextS 1099511627776 4 (l, 0)))) := by
  refine sx35.ok ?_
  unfold sx35
  have hn : n = l.length := hr.2.1
  refine (rTake_ok hr.1 hb hn hl).use fun v w1 ⟨hv, hw⟩ => ?_
  subst hv; subst hw
  have hu := takeB_used l
  have hnum := takeB_num hb
  rw [nextS_cases]
  refine ⟨_, _, _, rfl, fun he => ?_, fun he => ⟨fun hm => ?_, fun hm => ⟨by omega, fun w7 hg7 => ?_⟩⟩⟩
  · have he' : (takeB l).2.2 ≠ 0 := by simpa using he
    refine ⟨_, rfl, Grew.refl _, 0, none, 0, 0, ?_, fun h => ?_⟩
    · simp only; split
      · rw [failS_err _ he']
      · rfl
    · exfalso
      simp only at h
      split at h
      · rw [failS_err _ he'] at h; exact he' h
      · exact he' h
  · have he' : (takeB l).2.2 = 0 := by simpa using he
    have hm' : (1099511627776 : Int) < (takeB l).1 := by simpa using hm
    rw [if_pos hm', failS, if_pos he']
    exact ⟨_, rfl, Grew.refl _, 0, none, 0, 0, rfl, fun h => by simp at h⟩
  · have he' : (takeB l).2.2 = 0 := by simpa using he
    have hm' : ¬ (1099511627776 : Int) < (takeB l).1 := by simpa using hm
    rw [if_neg hm', he']
    have hw1 : IntKind.i64.wrap (takeB l).1 = (takeB l).1 := by rw [IntKind.wrap_i64]; omega
    rw [hw1]
    exact ⟨_, rfl, hg7, _, _, _, _, rfl, fun _ => ⟨rfl, (hr.grew hg7).from (i := (takeB l).2.1.toNat) (by omega), fun z hz => blk_cut hz⟩⟩

set_option maxHeartbeats 1000000 in
theorem rMDecode_ok {d : Option Addr} {n c : Nat} {l : List Int} {w : World} (hr : Reads w (Enc.int .u8) (d, n, c) l) (hb : Bytes l) (hl : l.length ≤ 9223372036854775807) (hbw : ∀ x, Blk d x → l ≠ [] → x < w.heap.size) :
    CallsW Try.prog 17 [.slice d n c] w (Rets (MarkErr w (decodeM l))) := by
  refine sx17.ok ?_
  unfold sx17
  intro w1 hg1
  have heq := markS_eq (l, 0)
  refine (count_ok (hr.grew hg1) hb hl).use fun v w2 ⟨hg2, x1, a1, n1, c1, hv, hn1⟩ => ?_
  subst hv
  have hg2 := hg1.trans hg2
  obtain ⟨r1, hr1⟩ : ∃ r1, r1 = nextS 1099511627776 4 (l, 0) := ⟨_, rfl⟩
  have hb1 := nextS_bytes (most := 1099511627776) (over := 4) hb
  rw [← hr1] at hn1 heq hb1 ⊢
  refine ⟨_, _, _, _, _, rfl, fun he => ?_, fun he => ?_⟩
  · have he' : r1.2.2 ≠ 0 := by simpa using he
    have hst : (markS (l, 0)).2 = r1.2 := by rw [heq]; simp only; rw [nextS_stays he', nextS_stays he', listN_stays he']
    exact ⟨_, rfl, by rw [decodeM_err (by rw [hst]; exact he'), hst]; exact .no hg2 _⟩
  have he1 : r1.2.2 = 0 := by simpa using he
  have e1 : r1.2 = (r1.2.1, 0) := Prod.ext rfl he1
  rw [e1] at heq
  obtain ⟨rfl, hr2, hsub1⟩ := hn1 he1
  have hlne : l ≠ [] := by rintro rfl; rw [hr1] at he1; simp [nextS, checkS, numS, takeB, takeGo] at he1
  have hlow1 : ∀ x, Blk a1 x → x < w.heap.size := fun x hx => hbw x (hsub1 x hx) hlne
  refine (count_ok hr2 hb1.1 (by omega)).use fun v w8 ⟨hg8, x2, a2, n2, c2, hv, hn2⟩ => ?_
  subst hv
  have hg8 := hg2.trans hg8
  obtain ⟨r2, hr2'⟩ : ∃ r2, r2 = nextS 1099511627776 4 (r1.2.1, 0) := ⟨_, rfl⟩
  have hb2 := nextS_bytes (most := 1099511627776) (over := 4) hb1.1
  rw [← hr2'] at hn2 heq hb2 ⊢
  refine ⟨_, _, _, _, _, rfl, fun he => ?_, fun he => ?_⟩
  · have he' : r2.2.2 ≠ 0 := by simpa using he
    have hst : (markS (l, 0)).2 = r2.2 := by rw [heq]; simp only; rw [nextS_stays he', listN_stays he']
    exact ⟨_, rfl, by rw [decodeM_err (by rw [hst]; exact he'), hst]; exact .no hg8 _⟩
  have he2 : r2.2.2 = 0 := by simpa using he
  have e2 : r2.2 = (r2.2.1, 0) := Prod.ext rfl he2
  rw [e2] at heq
  obtain ⟨rfl, hr8, hsub2⟩ := hn2 he2
  have hlow2 : ∀ x, Blk a2 x → x < w.heap.size := fun x hx => hlow1 x (hsub2 x hx)
  have hn2' : n2 = r2.2.1.length := hr8.2.1
  refine (rTake_ok hr8.1 hb2.1 hn2' (by omega)).use fun v w14 ⟨hv, hw⟩ => ?_
  subst hv; subst hw
  obtain ⟨r3, hr3⟩ : ∃ r3, r3 = nextS 64 6 (r2.2.1, 0) := ⟨_, rfl⟩
  rw [← hr3] at heq
  rw [nextS_cases] at hr3
  have hu := takeB_used r2.2.1
  have hnum := takeB_num hb2.1
  refine ⟨_, _, _, rfl, fun he => ?_, fun he => ⟨fun hm => ?_, fun hm => ⟨by omega, fun b20 w21 hal => ?_⟩⟩⟩
  · have he' : (takeB r2.2.1).2.2 ≠ 0 := by simpa using he
    have h32 : r3.2.2 = (takeB r2.2.1).2.2 := by
      rw [hr3]; simp only; split
      · rw [failS_err _ he']
      · rfl
    have he3 : r3.2.2 ≠ 0 := by rw [h32]; exact he'
    have hst : (markS (l, 0)).2 = r3.2 := by rw [heq]; simp only; rw [listN_stays he3]
    exact ⟨_, rfl, by rw [decodeM_err (by rw [hst]; exact he3), hst, h32]; exact .no hg8 _⟩
  · have he' : (takeB r2.2.1).2.2 = 0 := by simpa using he
    have hm' : (64 : Int) < (takeB r2.2.1).1 := by simpa using hm
    rw [if_pos hm', failS, if_pos he'] at hr3
    have he3 : r3.2.2 ≠ 0 := by rw [hr3]; simp
    have hst : (markS (l, 0)).2 = r3.2 := by rw [heq]; simp only; rw [listN_stays he3]
    refine ⟨_, rfl, ?_⟩
    rw [decodeM_err (by rw [hst]; exact he3), hst, hr3]; exact .no hg8 _
  have he' : (takeB r2.2.1).2.2 = 0 := by simpa using he
  have hm' : ¬ (64 : Int) < (takeB r2.2.1).1 := by simpa using hm
  rw [if_neg hm', he'] at hr3
  obtain ⟨N, hN⟩ : ∃ N : Nat, (takeB r2.2.1).1 = N := ⟨(takeB r2.2.1).1.toNat, by omega⟩
  rw [hN] at hr3 hm' ⊢
  have hwN : IntKind.i64.wrap (N : Int) = N := by rw [IntKind.wrap_i64]; omega
  rw [hwN]
  rw [hr3] at heq
  simp only [Int.toNat_natCast] at heq
  obtain ⟨L3, hL3⟩ : ∃ L3, L3 = r2.2.1.drop (takeB r2.2.1).2.1.toNat := ⟨_, rfl⟩
  rw [← hL3] at heq
  have hr21 := (hr8.grew hal.grew).from (i := (takeB r2.2.1).2.1.toNat) (by omega)
  rw [← hL3] at hr21
  have hg21 := hg8.trans hal.grew
  have hbL3 : Bytes L3 := by rw [hL3]; exact hb2.1.drop _
  have hlL3 : L3.length ≤ l.length := by rw [hL3, List.length_drop]; omega
  have ho0 := Own.alloc (E := Enc.int .u64) (l := []) hal (Nat.le_refl _) rfl (by decide)
  refine ⟨fun a4 n4 c4 a n c i _ _ _ _ _ w' => ∃ (k : Nat) (acc rest : List Int), i = k ∧ k ≤ N ∧ acc.length = k ∧ Reads w' (Enc.int .u8) (a4, n4, c4) rest ∧ (∀ x, Blk a4 x → x < w.heap.size) ∧ Bytes rest ∧ rest.length ≤ l.length ∧ Own w' w.heap.size 38 (Enc.int .u64) a n c acc ∧ Keys64 acc ∧ Grew w w' ∧ listGo numS N [] (L3, 0) = listGo numS (N - k) acc (rest, 0),
    fun _ _ _ _ _ _ i _ _ _ _ _ _ => N - i.toNat, ⟨0, [], L3, rfl, Nat.zero_le _, rfl, hr21, fun x hx => hlow2 x (blk_cut hx), hbL3, hlL3, ho0.base hg8.size, fun z h => (by simp at h), hg21, rfl⟩, ?_⟩
  rintro a4 n4 c4 a n c i j1 j2 j3 j4 j5 w29 ⟨k, acc, rest, rfl, hk, hacc, hr29, hlow, hbr, hrl, ho29, hk64, hg29, hgo⟩
  have hn4 : n4 = rest.length := hr29.2.1
  refine ⟨fun hlt => ?_, fun hge => ?_⟩
  · simp only [decide_eq_true_eq] at hlt
    have hkN : k < N := by omega
    obtain ⟨M, hM⟩ : ∃ M, N - k = M + 1 := ⟨N - k - 1, by omega⟩
    rw [hM, listGo, if_pos rfl, numS_ok] at hgo
    refine (rTake_ok hr29.1 hbr hn4 (by omega)).use fun v w30 ⟨hv, hw⟩ => ?_
    subst hv; subst hw
    have hu4 := takeB_used rest
    have hnum4 := takeB_num hbr
    refine ⟨_, _, _, rfl, fun he4 => ?_, fun he4 b36 w37 hal37 => ?_⟩
    · have he4' : (takeB rest).2.2 ≠ 0 := by simpa using he4
      have hst : (markS (l, 0)).2.2 = (takeB rest).2.2 := by rw [heq]; simp only; rw [hgo, listGo_err _ _ _ he4']
      exact ⟨_, rfl, by rw [decodeM_err (by rw [hst]; exact he4'), hst]; exact .no hg29 _⟩
    have he4' : (takeB rest).2.2 = 0 := by simpa using he4
    rw [he4'] at hgo
    refine append_new (l2 := [(takeB rest).1]) en_U ho29 hal37 rfl rfl hg29.size (by simp only [maxLen, List.length_cons, List.length_nil]; omega) (by simp only [List.length_cons, List.length_nil]; omega) ?_
    rintro v w38 ⟨a40, l40, c40, rfl, ho38, hu38, hb38⟩
    have hwk : IntKind.i64.wrap ((k : Int) + 1) = ((k + 1 : Nat) : Int) := by rw [IntKind.wrap_i64]; omega
    rw [hwk]
    have hg38 := hg29.then_own hu38 fun x hx => (ho29.blk hx).1
    have hr38 := hr29.upd hu38 (fun x hx h => by have := hlow x hx; have := (ho29.blk h).1; omega)
    refine ⟨_, _, _, rfl, by omega, ⟨k + 1, acc ++ [(takeB rest).1], rest.drop (takeB rest).2.1.toNat, rfl, by omega, by simp [hacc], hr38.from (by omega), fun x hx => hlow x (blk_cut hx), hbr.drop _, by rw [List.length_drop]; omega, ho38, fun z hz => ?_, hg38, by rw [hgo]; congr 1; omega⟩, by show N - (((k + 1 : Nat) : Int)).toNat < N - ((k : Int)).toNat; omega⟩
    rcases List.mem_append.1 hz with hz | hz
    · exact hk64 z hz
    · simp only [List.mem_singleton] at hz; subst hz; exact hnum4
  · simp only [decide_eq_false_iff_not] at hge
    have hk0 : N - k = 0 := by omega
    rw [hk0, listGo] at hgo
    rw [hgo] at heq
    refine ⟨fun hgt => ?_, fun hle w41 hg41 => ?_⟩
    · have hne : rest ≠ [] := by rintro rfl; simp only [decide_eq_true_eq, List.length_nil] at hgt hn4; omega
      refine ⟨_, rfl, ?_⟩
      rw [decodeM, heq, if_neg (by simp), if_pos hne]
      exact .no hg29 _
    · have hre : rest = [] := List.eq_nil_of_length_eq_zero (by simp only [decide_eq_false_iff_not] at hle; omega)
      obtain ⟨mk, hmk⟩ : ∃ mk : MarkV, mk = ⟨r1.1, r2.1, acc⟩ := ⟨_, rfl⟩
      have hd : decodeM l = if soundM mk = false then (mark0, 1) else (mk, 0) := by
        rw [decodeM, heq, if_neg (by simp), if_neg (by simp [hre]), hmk]
      have hg41' := hg29.trans hg41
      refine (rSound_ok (m := ⟨r1.1, r2.1, acc⟩) (ho29.grew hg41).reads (by simp only; omega)).use fun v w42 ⟨hv, hg42⟩ => ?_
      subst hv
      rw [← hmk]
      refine ⟨_, rfl, fun hs => ?_, fun hs => ?_⟩
      · have hs' : soundM mk = false := by simpa using hs
        refine ⟨_, rfl, ?_⟩
        rw [hd, if_pos hs']
        exact .no (hg41'.trans hg42) _
      · have hs' : ¬ soundM mk = false := by simpa using hs
        refine ⟨_, rfl, ?_⟩
        rw [hd, if_neg hs', hmk]
        exact ⟨_, _, _, rfl, (ho29.grew hg41).grew hg42, hg41'.trans hg42⟩

theorem keys_ok {a b : Option Addr} {n m c d : Nat} {l r : List Int} {w : World} (hl : Reads w (Enc.int .u64) (a, n, c) l) (hr : Reads w (Enc.int .u64) (b, m, d) r) (hn : l.length ≤ 9223372036854775806) :
    CallsW Try.prog 23 [.slice a n c, .slice b m d] w (Rets fun v w' => v = .bool (decide (l = r)) ∧ Grew w w') := by
  refine sx23.ok ?_
  unfold sx23
  have hln : n = l.length := hl.2.1
  have hrn : m = r.length := hr.2.1
  refine ⟨fun h => ?_, fun h => ?_⟩
  · have : ¬ l = r := by rintro rfl; simp at h; omega
    exact ⟨_, rfl, by simp [this], Grew.refl _⟩
  have hnm : n = m := by simp at h; omega
  refine ⟨fun i w' => ∃ k : Nat, i = k ∧ k ≤ n ∧ l.take k = r.take k ∧ Grew w w', fun i _ => n - i.toNat, ⟨0, rfl, Nat.zero_le _, rfl, Grew.refl _⟩, ?_⟩
  rintro i w3 ⟨k, rfl, hk, ht, hg⟩
  refine ⟨fun h => ?_, fun h => ?_⟩
  · simp only [decide_eq_true_eq] at h
    obtain ⟨d1, x, rfl, hx, hcx⟩ := (hl.grew hg).at0 (k := k) (by omega)
    obtain ⟨d2, y, rfl, hy, hcy⟩ := (hr.grew hg).at0 (k := k) (by omega)
    have hw : IntKind.i64.wrap ((k : Int) + 1) = ((k + 1 : Nat) : Int) := by rw [IntKind.wrap_i64]; omega
    rw [hw]
    refine ⟨by omega, x, by simpa [Enc.int, CellsAt, Addr.add_zero'] using hcx, by omega, y, by simpa [Enc.int, CellsAt, Addr.add_zero'] using hcy, fun w8 hg8 => ⟨fun h => ?_, fun h => ?_⟩⟩
    · have hxy : ¬ x = y := by simpa using h
      have : ¬ l = r := by rintro rfl; rw [hx] at hy; cases hy; exact hxy rfl
      exact ⟨_, rfl, by simp [this], hg.trans hg8⟩
    · have hxy : x = y := by simpa using h
      exact ⟨⟨k + 1, rfl, by omega, by rw [take_snoc hx, take_snoc hy, ht, hxy], hg.trans hg8⟩, by show n - (((k + 1 : Nat) : Int)).toNat < n - ((k : Int)).toNat; omega⟩
  · simp only [decide_eq_false_iff_not] at h
    rw [List.take_of_length_le (by omega), List.take_of_length_le (by omega)] at ht
    exact ⟨_, rfl, by simp [ht], hg⟩

/-- the same mark -/
def sameM (m k : MarkV) : Bool := decide (m.batch = k.batch) && (decide (m.attempt = k.attempt) && decide (m.keys = k.keys))
theorem sameM_refl (m : MarkV) : sameM m m = true := by simp [sameM]
theorem sameMark_ok {m k : MarkV} {a b : Option Addr} {n p c d : Nat} {w : World} (hl : Reads w (Enc.int .u64) (a, n, c) m.keys) (hr : Reads w (Enc.int .u64) (b, p, d) k.keys) (hn : m.keys.length ≤ 9223372036854775806) :
    CallsW Try.prog 18 [mval m a n c, mval k b p d] w (Rets fun v w' => v = .bool (sameM m k) ∧ Grew w w') := by
  refine sx18.ok ?_
  unfold sx18
  intro w1 hg1 w2 hg2
  have hg2 := hg1.trans hg2
  refine ⟨fun h => ⟨fun h2 => ?_, fun h2 => ?_⟩, fun h => ?_⟩
  · refine (keys_ok (hl.grew hg2) (hr.grew hg2) hn).use fun v w3 ⟨hv, hg3⟩ => ?_
    subst hv
    have h' : m.batch = k.batch := by simpa using h
    have h2' : m.attempt = k.attempt := by simpa using h2
    exact ⟨_, rfl, _, rfl, by simp [sameM, h', h2'], hg2.trans hg3⟩
  · have h2' : ¬ m.attempt = k.attempt := by simpa using h2
    exact ⟨_, rfl, by simp [sameM, h2'], hg2⟩
  · have h' : ¬ m.batch = k.batch := by simpa using h
    exact ⟨_, rfl, by simp [sameM, h'], hg2⟩
end Go.Proofs.Yteakjjbajjkloaa
