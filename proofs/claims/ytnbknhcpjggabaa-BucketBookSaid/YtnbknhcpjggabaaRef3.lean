/- What the reference's one and Decode hand back. Conditions: none. -/
import Derived.Test.YtnbknhcpjggabaaProg
import Derived.Test.YtnbknhcpjggabaaRef2
namespace Go.Proofs.Ytnbknhcpjggabaa
open Go.Sx
set_option maxRecDepth 100000
set_option linter.unusedVariables false
set_option linter.unusedSimpArgs false
/- reprise/repriseref11.one -/
def sx33 (d : Option Addr) (d_n d_c : Nat) (i : Int) (p2 : Bool) (R : Ending → World → Prop) (w : World) : Prop :=
  ∀ w1, Grew w w1 → CallsW Try.prog 32 [.slice d d_n d_c] w1 (RetR R fun u3 w2 => ∃ (n4 : Int) (n5 : Int) (n6 : Int), u3 = .tuple #[.int .u64 n4, .int .i64 n5, .int .i64 n6] ∧ (((n6 != 0) = true → R (.returned (.tuple
    #[.agg #[.int .u64 0, .bool false, .int .u64 0, .bool false, .int .u64 0, .int .i64 0], .slice none 0 0, .int .i64 n6])) w2) ∧ ((n6 != 0) = false → ∃ (J8 : Int → Bool → Int → Bool → Int → Int → World → Prop), ((((!p2)
    = true → (((decide (n4 ≤ i)) = true → R (.returned (.tuple #[.agg #[.int .u64 0, .bool false, .int .u64 0, .bool false, .int .u64 0, .int .i64 0], .slice none 0 0, .int .i64 7])) w2) ∧ ((decide (n4 ≤ i)) = false → J8
    0 false 0 false 0 0 w2))) ∧ ((!p2) = false → J8 0 false 0 false 0 0 w2))) ∧ ∀ (n9 : Int) (b10 : Bool) (n11 : Int) (b12 : Bool) (n13 : Int) (n14 : Int) (w15 : World), J8 n9 b10 n11 b12 n13 n14 w15 → (0 ≤ n5 ∧ n5 ≤ (d_n
    : Nat)) ∧ (((((d_n - n5.toNat : Nat) : Int) == 0) = true → R (.returned (.tuple #[.agg #[.int .u64 0, .bool false, .int .u64 0, .bool false, .int .u64 0, .int .i64 0], .slice none 0 0, .int .i64 3])) w15) ∧ ((((d_n -
    n5.toNat : Nat) : Int) == 0) = false → withSome (if d_c = n5.toNat then d else Option.map (fun x => Addr.add x (n5.toNat * 1)) d) (fun d16 => (0 ≤ (0 : Int) ∧ (0 : Int) < (d_n - n5.toNat : Nat)) ∧ ∃ (n17 : Int),
    w15.cell? d16 = some (.int .u8 n17) ∧ (((decide (n17 > 3)) = true → R (.returned (.tuple #[.agg #[.int .u64 0, .bool false, .int .u64 0, .bool false, .int .u64 0, .int .i64 0], .slice none 0 0, .int .i64 4])) w15) ∧
    ((decide (n17 > 3)) = false → (0 ≤ (1 : Int) ∧ (1 : Int) ≤ (d_n - n5.toNat : Nat)) ∧ (((2 : Int) = 0 → R (.panicked (divPanic Try.prog)) w15) ∧ ((2 : Int) ≠ 0 → CallsW Try.prog 48 [.slice (if d_c - n5.toNat = (1 :
    Int).toNat then (if d_c = n5.toNat then d else Option.map (fun x => Addr.add x (n5.toNat * 1)) d) else Option.map (fun x => Addr.add x ((1 : Int).toNat * 1)) (if d_c = n5.toNat then d else Option.map (fun x =>
    Addr.add x (n5.toNat * 1)) d)) ((d_n - n5.toNat) - (1 : Int).toNat) ((d_c - n5.toNat) - (1 : Int).toNat), .bool ((Int.tmod n17 2) == 1)] w15 (RetR R fun u19 w18 => ∃ (b20 : Bool) (n21 : Int) (a22 : Option Addr) (l22
    c22 : Nat) (n23 : Int), u19 = .tuple #[.agg #[.bool b20, .int .u64 n21], .slice a22 l22 c22, .int .i64 n23] ∧ ∀ w25, Grew w18 w25 → (((n23 != 0) = true → R (.returned (.tuple #[.agg #[.int .u64 0, .bool false, .int
    .u64 0, .bool false, .int .u64 0, .int .i64 0], .slice none 0 0, .int .i64 n23])) w25) ∧ ((n23 != 0) = false → CallsW Try.prog 48 [.slice a22 l22 c22, .bool (decide (n17 ≥ 2))] w25 (RetR R fun u27 w26 => ∃ (b28 :
    Bool) (n29 : Int) (a30 : Option Addr) (l30 c30 : Nat) (n31 : Int), u27 = .tuple #[.agg #[.bool b28, .int .u64 n29], .slice a30 l30 c30, .int .i64 n31] ∧ ∀ w33, Grew w26 w33 → (((n31 != 0) = true → R (.returned (.tuple
    #[.agg #[.int .u64 0, .bool false, .int .u64 0, .bool false, .int .u64 0, .int .i64 0], .slice none 0 0, .int .i64 n31])) w33) ∧ ((n31 != 0) = false → CallsW Try.prog 32 [.slice a30 l30 c30] w33 (RetR R fun u35 w34 =>
    ∃ (n36 : Int) (n37 : Int) (n38 : Int), u35 = .tuple #[.int .u64 n36, .int .i64 n37, .int .i64 n38] ∧ (((n38 != 0) = true → R (.returned (.tuple #[.agg #[.int .u64 0, .bool false, .int .u64 0, .bool false, .int .u64 0,
    .int .i64 0], .slice none 0 0, .int .i64 n38])) w34) ∧ ((n38 != 0) = false → (((decide (n36 > 1099511627776)) = true → R (.returned (.tuple #[.agg #[.int .u64 0, .bool false, .int .u64 0, .bool false, .int .u64 0,
    .int .i64 0], .slice none 0 0, .int .i64 4])) w34) ∧ ((decide (n36 > 1099511627776)) = false → ∀ w40, Grew w34 w40 → (0 ≤ n37 ∧ n37 ≤ (l30 : Nat)) ∧ SameB w40 w40 [] ∧ R (.returned (.tuple #[.agg #[.int .u64 n4, .bool
    b20, .int .u64 n21, .bool b28, .int .u64 n29, .int .i64 (IntKind.i64.wrap n36)], .slice (if c30 = n37.toNat then a30 else Option.map (fun x => Addr.add x (n37.toNat * 1)) a30) (l30 - n37.toNat) (c30 - n37.toNat), .int
    .i64 0])) w40)))))))))))))))))))))
theorem sx33.ok {d : Option Addr} {d_n d_c : Nat} {i : Int} {p2 : Bool} {R : Ending → World → Prop} {w : World} (h : sx33 d d_n d_c i p2 R w) : CallsW Try.prog 33 [.slice d d_n d_c, .int .u64 i, .bool p2] w R :=
  callsW_of mix Try.func33 (by kernel_rfl) (by kernel_rfl) (Eq.mpr (by kernel_rfl : denFn Try.prog { locals := [6, 13, 14], draws := [(23, { order := (.cons 0 (.cons 1 (.cons 2 (.cons 3 (.cons 4 (.cons 5 (.cons 6 (.cons 7 (.cons 8 (.cons 9 (.cons 10 (.cons 11 .nil)))))))))))), bars := [] })], cuts := [(6, { slots := [], cells := [(6, 37, [.int .u64, .bool, .int .u64, .bool, .int .u64, .int .i64])] })] } Try.f33 [.slice d d_n d_c, .int .u64 i, .bool p2] R w = sx33 d d_n d_c i p2 R w) h)

/- reprise/repriseref11.Decode -/
def sx13 (b : Option Addr) (b_n b_c : Nat) (R : Ending → World → Prop) (w : World) : Prop :=
  (((((b_n : Nat) : Int) == 0) = true → R (.returned (.tuple #[.slice none 0 0, .int .i64 0])) w) ∧ ((((b_n : Nat) : Int) == 0) = false → CallsW Try.prog 32 [.slice b b_n b_c] w (RetR R fun u2 w1 => ∃ (n3 : Int) (n4 : Int)
    (n5 : Int), u2 = .tuple #[.int .u64 n3, .int .i64 n4, .int .i64 n5] ∧ (((n5 != 0) = true → R (.returned (.tuple #[.slice none 0 0, .int .i64 n5])) w1) ∧ ((n5 != 0) = false → (((n3 == 0) = true → R (.returned (.tuple
    #[.slice none 0 0, .int .i64 4])) w1) ∧ ((n3 == 0) = false → (((decide (n3 > 16)) = true → R (.returned (.tuple #[.slice none 0 0, .int .i64 6])) w1) ∧ ((decide (n3 > 16)) = false → (0 ≤ n4 ∧ n4 ≤ (b_n : Nat)) ∧ ∀ (b7
    : Nat) (w8 : World), Alloc w1 w8 b7 (.cells #[] 37) → ∃ (I9 : Option Addr → Nat → Nat → Option Addr → Nat → Nat → Int → Int → World → Prop) (m9 : Option Addr → Nat → Nat → Option Addr → Nat → Nat → Int → Int → World →
    Nat), I9 (if b_c = n4.toNat then b else Option.map (fun x => Addr.add x (n4.toNat * 1)) b) (b_n - n4.toNat) (b_c - n4.toNat) (some ⟨b7, 0, none⟩) 0 0 0 0 w8 ∧ ∀ (a10 : Option Addr) (l10 c10 : Nat) (a11 : Option Addr)
    (l11 c11 : Nat) (n12 : Int) (n13 : Int) (w14 : World), I9 a10 l10 c10 a11 l11 c11 n12 n13 w14 → (((decide (n13 < IntKind.i64.wrap n3)) = true → CallsW Try.prog 33 [.slice a10 l10 c10, .int .u64 n12, .bool (n13 == 0)]
    w14 (RetR R fun u16 w15 => ∃ (n17 : Int) (b18 : Bool) (n19 : Int) (b20 : Bool) (n21 : Int) (n22 : Int) (a23 : Option Addr) (l23 c23 : Nat) (n24 : Int), u16 = .tuple #[.agg #[.int .u64 n17, .bool b18, .int .u64 n19,
    .bool b20, .int .u64 n21, .int .i64 n22], .slice a23 l23 c23, .int .i64 n24] ∧ ∀ w26, Grew w15 w26 → (((n24 != 0) = true → R (.returned (.tuple #[.slice none 0 0, .int .i64 n24])) w26) ∧ ((n24 != 0) = false → ∀ (b27 :
    Nat) (w28 : World), Alloc w26 w28 b27 (.cells #[.int .u64 n17, .bool b18, .int .u64 n19, .bool b20, .int .u64 n21, .int .i64 n22] 37) → SemW Try.prog (Builtin.append_ #[22, 22] 22 #[.slice a11 l11 c11, .slice (some
    ⟨b27, 0, none⟩) 1 1]) (fun u30 w29 => ∃ (a31 : Option Addr) (l31 c31 : Nat), u30 = .slice a31 l31 c31 ∧ (I9 a23 l23 c23 a31 l31 c31 n17 (IntKind.i64.wrap (n13 + 1)) w29 ∧ m9 a23 l23 c23 a31 l31 c31 n17
    (IntKind.i64.wrap (n13 + 1)) w29 < m9 a10 l10 c10 a11 l11 c11 n12 n13 w14)) w28)))) ∧ ((decide (n13 < IntKind.i64.wrap n3)) = false → (((decide (((l10 : Nat) : Int) > 0)) = true → R (.returned (.tuple #[.slice none 0
    0, .int .i64 5])) w14) ∧ ((decide (((l10 : Nat) : Int) > 0)) = false → R (.returned (.tuple #[.slice a11 l11 c11, .int .i64 0])) w14)))))))))))))
theorem sx13.ok {b : Option Addr} {b_n b_c : Nat} {R : Ending → World → Prop} {w : World} (h : sx13 b b_n b_c R w) : CallsW Try.prog 13 [.slice b b_n b_c] w R :=
  callsW_of mix Try.func13 (by kernel_rfl) (by kernel_rfl) (Eq.mpr (by kernel_rfl : denFn Try.prog { locals := [10], sem := [54], loops := [(14, { slots := [(0, .slice), (7, .slice), (8, .int .u64), (9, .int .i64)], cells := [] })] } Try.f13 [.slice b b_n b_c] R w = sx13 b b_n b_c R w) h)


/-- a cell off the front, or an error -/
def OneP (w : World) (d : Option Addr) (r : CellV × RdS) (v : Value) (w' : World) : Prop :=
  Grew w w' ∧ ∃ x a' n' c', v = .tuple #[.agg (CellV.vals x).toArray, .slice a' n' c', .int .i64 r.2.2] ∧ (r.2.2 = 0 → x = r.1 ∧ RestOf w' d a' n' c' r.2.1)
theorem OneP.err {w w' : World} {d : Option Addr} {r : CellV × RdS} {e : Int} (hg : Grew w w') (he : r.2.2 = e) (h0 : e ≠ 0) : OneP w d r (.tuple #[.agg #[.int .u64 0, .bool false, .int .u64 0, .bool false, .int .u64 0, .int .i64 0], .slice none 0 0, .int .i64 e]) w' :=
  ⟨hg, ⟨0, false, 0, false, 0, 0⟩, none, 0, 0, by rw [he]; rfl, fun h => absurd (he.symm.trans h) h0⟩

theorem one_ok {d : Option Addr} {n c : Nat} {l : List Int} {last : Int} {first : Bool} {w : World} (hr : Reads w (Enc.int .u8) (d, n, c) l) (hb : Bytes l) (hl : l.length ≤ 9223372036854775807) :
    CallsW Try.prog 33 [.slice d n c, .int .u64 last, .bool first] w (Rets (OneP w d (cellS (if first = true then none else some last) (l, 0)))) := by
  refine sx33.ok ?_
  unfold sx33
  obtain ⟨q, hq⟩ : ∃ q, q = (if first = true then none else some last) := ⟨_, rfl⟩
  rw [← hq]
  intro w1 hg1
  refine (rTake_ok (hr.grew hg1).1 hb hr.2.1 hl).use fun v w2 ⟨hv, hw⟩ => ?_
  subst hv; subst hw
  have hcs := cellS_eq q (l, 0)
  rw [numS_ok] at hcs
  simp only at hcs
  refine ⟨_, _, _, rfl, fun he => ?_, fun he => ?_⟩
  · have he' : (takeB l).2.2 ≠ 0 := by simpa using he
    refine ⟨_, rfl, OneP.err hg1 ?_ he'⟩
    rw [hcs]
    split
    · rw [failS_err _ he', cell1_err he']
    · rw [cell1_err he']
  have he0 : (takeB l).2.2 = 0 := by simpa using he
  rw [he0] at hcs
  have hu := takeB_used l
  have hn : n = l.length := hr.2.1
  refine ⟨fun _ _ _ _ _ _ w' => w' = w2 ∧ q.any (fun q => decide ((takeB l).1 ≤ q)) = false, ⟨fun hf => ⟨fun hle => ?_, fun hle => ?_⟩, fun hf => ?_⟩, ?_⟩
  · have hf' : first = false := by simpa using hf
    refine ⟨_, rfl, OneP.err hg1 ?_ (by decide)⟩
    have hqa : q.any (fun q => decide ((takeB l).1 ≤ q)) = true := by rw [hq, hf']; simpa using hle
    rw [hcs, if_pos hqa, failS, if_pos rfl, cell1_err (by simp)]
  · have hf' : first = false := by simpa using hf
    exact ⟨rfl, by rw [hq, hf']; simpa using hle⟩
  · have hf' : first = true := by simpa using hf
    exact ⟨rfl, by rw [hq, hf']; rfl⟩
  rintro _ _ _ _ _ _ w15 ⟨rfl, hqa⟩
  rw [if_neg (by rw [hqa]; simp)] at hcs
  have hr1 := (hr.grew hg1).from (i := (takeB l).2.1.toNat) (by omega)
  obtain ⟨l1, hl1⟩ : ∃ l1, l1 = l.drop (takeB l).2.1.toNat := ⟨_, rfl⟩
  rw [← hl1] at hr1 hcs
  have hb1 : Bytes l1 := hl1 ▸ hb.drop _
  have hn1 : n - (takeB l).2.1.toNat = l1.length := hr1.2.1
  refine ⟨by omega, fun hz => ?_, fun hz => ?_⟩
  · have h1 : l1 = [] := List.eq_nil_of_length_eq_zero (by simp at hz; omega)
    refine ⟨_, rfl, OneP.err hg1 ?_ (by decide)⟩
    rw [hcs, h1, cell1]
    have : flagsS (([], 0) : RdS) = (0, ([], 3)) := by rw [flagsS, if_neg (by simp)]
    rw [this, cell2_err (by simp)]
  have hpos : 0 < n - (takeB l).2.1.toNat := by simp at hz; omega
  obtain ⟨d16, f, hd16, hf, hcf⟩ := hr1.at0 hpos
  obtain ⟨t, ht⟩ : ∃ t, l1 = f :: t := by
    cases h : l1 with
    | nil => rw [h] at hf; cases hf
    | cons y t => rw [h] at hf; simp at hf; exact ⟨t, by rw [hf]⟩
  have hcell : w15.cell? d16 = some (.int .u8 f) := by simpa [Enc.int, CellsAt, Addr.add_zero'] using hcf.1
  have hfb := hb1.get hf
  refine (show withSome _ _ from ?_)
  rw [show (if c = (takeB l).2.1.toNat then d else Option.map (fun x => Addr.add x ((takeB l).2.1.toNat * 1)) d) = some d16 from hd16]
  refine ⟨by omega, f, hcell, fun h3 => ?_, fun h3 => ?_⟩
  · simp only [decide_eq_true_eq] at h3
    refine ⟨_, rfl, OneP.err hg1 ?_ (by decide)⟩
    rw [hcs, ht, cell1]
    have : flagsS ((f :: t, 0) : RdS) = (0, (f :: t, 4)) := by rw [flagsS, if_neg (by simp)]; simp only [if_pos (show 3 < f by omega)]
    rw [this, cell2_err (by simp)]
  simp only [decide_eq_false_iff_not] at h3
  have hfl : flagsS ((l1, 0) : RdS) = (f, (t, 0)) := by rw [flagsS, if_neg (by simp), ht]; simp only [if_neg (show ¬ 3 < f by omega)]
  rw [cell1, hfl] at hcs
  simp only at hcs
  have hodd : (Int.tmod f 2 == 1) = decide (f % 2 = 1) := by rw [Int.tmod_eq_emod_of_nonneg hfb.1]; rfl
  have hr1' : Reads w15 (Enc.int .u8) (some d16, n - (takeB l).2.1.toNat, c - (takeB l).2.1.toNat) l1 := by rw [← hd16]; exact hr1
  have hbd : ∀ x, Blk (some d16) x → Blk d x := fun x hx => blk_cut (by rw [← hd16] at hx; exact hx)
  have hr2 := hr1'.from (i := 1) hpos
  rw [show l1.drop 1 = t from by rw [ht]; rfl] at hr2
  have hbt : Bytes t := fun x hx => hb1 x (by rw [ht]; simp [hx])
  refine ⟨by omega, fun h => (by simp at h), fun _ => ?_⟩
  rw [hodd]
  refine (rvalue_ok (has := decide (f % 2 = 1)) hr2 hbt).use fun v w18 ⟨hg18, x1, a22, l22, c22, hv, hv1⟩ => ?_
  subst hv
  have hg18' := hg1.trans hg18
  obtain ⟨s1, hs1⟩ : ∃ s1, s1 = valueS (decide (f % 2 = 1)) (t, 0) := ⟨_, rfl⟩
  have hse1 := valueS_ends (decide (f % 2 = 1)) (t, 0)
  rw [cell2, ← hs1] at hcs
  rw [← hs1] at hv1 hse1 ⊢
  refine ⟨_, _, _, _, _, _, rfl, fun w25 hg25 => ⟨fun he1 => ?_, fun he1 => ?_⟩⟩
  · have he1' : s1.2.2 ≠ 0 := by simpa using he1
    exact ⟨_, rfl, OneP.err (hg18'.trans hg25) (by rw [hcs, cell3_err he1']) he1'⟩
  have he1' : s1.2.2 = 0 := by simpa using he1
  obtain ⟨hx1, hrest1, hblk1⟩ := hv1 he1'
  have hb1' : Bytes s1.2.1 := hse1.bytes hbt
  have hsp1 : s1.2 = (s1.2.1, 0) := by rw [← he1']
  have hge : decide (f ≥ 2) = decide (2 ≤ f) := rfl
  refine (rvalue_ok (has := decide (2 ≤ f)) (hrest1.grew hg25) hb1').use fun v w26 ⟨hg26, x2, a30, l30, c30, hv, hv2⟩ => ?_
  subst hv
  have hg26' := (hg18'.trans hg25).trans hg26
  obtain ⟨s2, hs2⟩ : ∃ s2, s2 = valueS (decide (2 ≤ f)) (s1.2.1, 0) := ⟨_, rfl⟩
  have hse2 := valueS_ends (decide (2 ≤ f)) (s1.2.1, 0)
  rw [cell3, hsp1, ← hs2] at hcs
  rw [← hs2] at hv2 hse2 ⊢
  refine ⟨_, _, _, _, _, _, rfl, fun w33 hg33 => ⟨fun he2 => ?_, fun he2 => ?_⟩⟩
  · have he2' : s2.2.2 ≠ 0 := by simpa using he2
    exact ⟨_, rfl, OneP.err (hg26'.trans hg33) (by rw [hcs, cell4_err he2']) he2'⟩
  have he2' : s2.2.2 = 0 := by simpa using he2
  obtain ⟨hx2, hrest2, hblk2⟩ := hv2 he2'
  have hb2' : Bytes s2.2.1 := hse2.bytes hb1'
  have hsp2 : s2.2 = (s2.2.1, 0) := by rw [← he2']
  have hlen2 : s2.2.1.length ≤ 9223372036854775807 := by
    have h1 := hse2.len; have h2 := hse1.len
    have h3 : l1.length ≤ l.length := by rw [hl1]; simp
    have h4 : t.length ≤ l1.length := by rw [ht]; simp
    simp only at h1 h2; omega
  have hr3 := hrest2.grew hg33
  refine (rTake_ok hr3.1 hb2' hr3.2.1 hlen2).use fun v w34 ⟨hv, hw⟩ => ?_
  subst hv; subst hw
  rw [cell4, hsp2, numS_ok] at hcs
  simp only at hcs
  have hg34 := hg26'.trans hg33
  refine ⟨_, _, _, rfl, fun he3 => ?_, fun he3 => ⟨fun hbig => ?_, fun hbig w40 hg40 => ?_⟩⟩
  · have he3' : (takeB s2.2.1).2.2 ≠ 0 := by simpa using he3
    refine ⟨_, rfl, OneP.err hg34 ?_ he3'⟩
    rw [hcs]; simp only
    split
    · rw [failS_err _ he3']
    · rfl
  · have he3' : (takeB s2.2.1).2.2 = 0 := by simpa using he3
    refine ⟨_, rfl, OneP.err hg34 ?_ (by decide)⟩
    rw [hcs, if_pos (by simpa using hbig), he3']; rfl
  · have he3' : (takeB s2.2.1).2.2 = 0 := by simpa using he3
    rw [if_neg (by simpa using hbig), he3'] at hcs
    have hu3 := takeB_used s2.2.1
    have hl30 : l30 = s2.2.1.length := hr3.2.1
    have hr4 := (hr3.grew hg40).from (i := (takeB s2.2.1).2.1.toNat) (by omega)
    refine ⟨by omega, trivial, _, rfl, hg34.trans hg40, ⟨(takeB l).1, x1.1, x1.2, x2.1, x2.2, IntKind.i64.wrap (takeB s2.2.1).1⟩, _, _, _, by rw [hcs]; rfl, fun _ => ?_⟩
    rw [hcs]
    exact ⟨by rw [hx1, hx2], hr4, fun x hx => hbd x (blk_cut (hblk1 x (hblk2 x (blk_cut hx))))⟩

theorem decEnd_err {cs : List CellV} {s : RdS} (h : s.2 ≠ 0) : decEnd (cs, s) = ([], s.2) := by
  unfold decEnd
  by_cases h1 : s.1 = [] <;> simp [h1, h, failS]
theorem decGo_err {k : Nat} {acc : List CellV} {s : RdS} (h : s.2 ≠ 0) : decEnd (decGo k acc s) = ([], s.2) := by rw [decGo_stop (.inr h), decEnd_err h]

theorem rDecode_ok {b : Option Addr} {n c : Nat} {l : List Int} {w : World} (hr : Reads w (Enc.int .u8) (b, n, c) l) (hb : Bytes l) (hl : l.length ≤ 9223372036854775807) (hbw : ∀ x, Blk b x → l ≠ [] → x < w.heap.size) :
    CallsW Try.prog 13 [.slice b n c] w (Rets (CellsErr w (decodeB l))) := by
  refine sx13.ok ?_
  unfold sx13
  have hn : n = l.length := hr.2.1
  refine ⟨fun h => ?_, fun h => ?_⟩
  · simp only [beq_iff_eq] at h
    refine ⟨_, rfl, ?_⟩
    rw [decodeB, if_pos (List.eq_nil_of_length_eq_zero (by omega))]
    exact .no (Grew.refl _) _
  have hpos : 0 < n := by simp at h; omega
  have hne : l ≠ [] := fun e => by rw [e] at hn; simp at hn; omega
  have hdec : decodeB l = decEnd (decGo (decStart l).1.toNat [] (decStart l).2) := by rw [decodeB, if_neg hne]
  have hnum := takeB_num hb
  have hu := takeB_used l
  rw [decStart, numS_ok] at hdec
  simp only at hdec
  refine (rTake_ok hr.1 hb hr.2.1 hl).use fun v w1 ⟨hv, hw⟩ => ?_
  subst hv; subst hw
  refine ⟨_, _, _, rfl, fun he => ?_, fun he => ⟨fun h0 => ?_, fun h0 => ⟨fun h16 => ?_, fun h16 => ⟨by omega, fun b7 w8 hal => ?_⟩⟩⟩⟩
  · have he' : (takeB l).2.2 ≠ 0 := by simpa using he
    refine ⟨_, rfl, ?_⟩
    have : decodeB l = ([], (takeB l).2.2) := by
      rw [hdec]
      split
      · rw [failS_err _ he', decGo_err he']
      · split
        · rw [failS_err _ he', decGo_err he']
        · rw [decGo_err he']
    rw [this]; exact .no (Grew.refl _) _
  · simp only [beq_iff_eq] at h0
    have he' : (takeB l).2.2 = 0 := by simpa using he
    refine ⟨_, rfl, ?_⟩
    have : decodeB l = ([], 4) := by rw [hdec, if_pos h0, he', failS, if_pos rfl, decGo_err (by simp)]
    rw [this]; exact .no (Grew.refl _) _
  · simp only [beq_eq_false_iff_ne, ne_eq] at h0
    simp only [decide_eq_true_eq] at h16
    have he' : (takeB l).2.2 = 0 := by simpa using he
    refine ⟨_, rfl, ?_⟩
    have : decodeB l = ([], 6) := by rw [hdec, if_neg h0, if_pos (show 16 < (takeB l).1 from h16), he', failS, if_pos rfl, decGo_err (by simp)]
    rw [this]; exact .no (Grew.refl _) _
  simp only [beq_eq_false_iff_ne, ne_eq] at h0
  simp only [decide_eq_false_iff_not] at h16
  have he' : (takeB l).2.2 = 0 := by simpa using he
  rw [if_neg h0, if_neg (show ¬ 16 < (takeB l).1 from h16), he'] at hdec
  obtain ⟨N, hN⟩ : ∃ N : Nat, (takeB l).1 = N := ⟨(takeB l).1.toNat, by omega⟩
  rw [hN] at hdec h16 ⊢
  rw [Int.toNat_natCast] at hdec
  have hwN : IntKind.i64.wrap (N : Int) = N := by rw [IntKind.wrap_i64]; omega
  rw [hwN]
  have hoe := Own.alloc (E := Enc.cell) (l := []) hal (Nat.le_refl _) rfl (by decide)
  have hr1 := (hr.grew hal.grew).from (i := (takeB l).2.1.toNat) (by omega)
  refine ⟨fun a1 n1 c1 a2 n2 c2 last i w' => ∃ (acc : List CellV) (r : List Int), i = acc.length ∧ acc.length ≤ N ∧ Reads w' (Enc.int .u8) (a1, n1, c1) r ∧ (∀ x, Blk a1 x → x < w1.heap.size) ∧ Bytes r ∧ r.length ≤ 9223372036854775807 ∧ Own w' w1.heap.size 37 Enc.cell a2 n2 c2 acc ∧ Grew w1 w' ∧ (acc ≠ [] → acc.getLast?.map CellV.key = some last) ∧ decodeB l = decEnd (decGo (N - acc.length) acc (r, 0)),
    fun _ _ _ _ _ _ _ i _ => N - i.toNat, ⟨[], _, rfl, Nat.zero_le _, hr1, fun x hx => hbw x (blk_cut hx) hne, hb.drop _, by simp; omega, hoe, hal.grew, fun h => absurd rfl h, hdec⟩, ?_⟩
  rintro a1 n1 c1 a2 n2 c2 last i w' ⟨acc, r, rfl, haN, hrr, hblk, hbr, hlr, ho, hg, hlast, hd⟩
  refine ⟨fun hlt => ?_, fun hge => ?_⟩
  · simp only [decide_eq_true_eq] at hlt
    obtain ⟨k, hk⟩ : ∃ k, N - acc.length = k + 1 := ⟨N - acc.length - 1, by omega⟩
    rw [hk, decGo, if_pos rfl] at hd
    have hq : (if ((acc.length : Int) == 0) = true then none else some last) = acc.getLast?.map CellV.key := by
      by_cases ha : acc = []
      · subst ha; rfl
      · have : acc.length ≠ 0 := fun h => ha (List.eq_nil_of_length_eq_zero h)
        rw [if_neg (by simpa using ha), hlast ha]
    refine (one_ok hrr hbr hlr).use fun v w15 ⟨hg15, x, a', n', c', hv, hok⟩ => ?_
    subst hv
    rw [hq] at hok ⊢
    refine ⟨_, _, _, _, _, _, _, _, _, _, rfl, fun w26 hg26 => ⟨fun he2 => ?_, fun he2 b27 w28 hal28 => ?_⟩⟩
    · have he2' : (cellS (acc.getLast?.map CellV.key) (r, 0)).2.2 ≠ 0 := by simpa using he2
      refine ⟨_, rfl, ?_⟩
      rw [hd, decGo_err he2']
      exact .no ((hg.trans hg15).trans hg26) _
    · have he2' : (cellS (acc.getLast?.map CellV.key) (r, 0)).2.2 = 0 := by simpa using he2
      obtain ⟨rfl, hrest, hbl⟩ := hok he2'
      have hends := cellS_ends (acc.getLast?.map CellV.key) (r, 0)
      have hg28 : Grew w' w28 := (hg15.trans hg26).trans hal28.grew
      refine append_new (l2 := [(cellS (acc.getLast?.map CellV.key) (r, 0)).1]) ec (ho.grew (hg15.trans hg26)) hal28 (by simp only [List.flatMap_cons, List.flatMap_nil, List.append_nil]; rfl) rfl (Nat.le_trans hg.size (hg15.trans hg26).size) (by simp [maxLen]; omega) (by simp; omega) ?_
      rintro v w29 ⟨a3, n3, c3, rfl, ho3, hu3, -⟩
      have hw1 : IntKind.i64.wrap ((acc.length : Int) + 1) = ((acc.length + 1 : Nat) : Int) := by rw [IntKind.wrap_i64]; omega
      rw [hw1]
      have hblk' : ∀ x, Blk a' x → x < w1.heap.size := fun x hx => hblk x (hbl x hx)
      refine ⟨a3, n3, c3, rfl, ⟨_, _, by simp, by simp; omega, (hrest.grew hg26).upd hu3 fun b hb hx => (by have h1 := hblk' b hb; have h2 := (ho.blk hx).1; omega), hblk', hends.bytes hbr, Nat.le_trans hends.len hlr, ho3, ((hg.trans hg15).trans hg26).then_own hu3 fun b hb => (ho.blk hb).1, fun _ => by simp, ?_⟩, ?_⟩
      · have e1 : N - (acc ++ [(cellS (acc.getLast?.map CellV.key) (r, 0)).1]).length = k := by simp; omega
        have e2 : ((cellS (acc.getLast?.map CellV.key) (r, 0)).2.1, (0 : Int)) = (cellS (acc.getLast?.map CellV.key) (r, 0)).2 := Prod.ext rfl he2'.symm
        rw [hd, e1, e2]
      · show N - (((acc.length + 1 : Nat) : Int)).toNat < N - ((acc.length : Int)).toNat
        omega
  · simp only [decide_eq_false_iff_not] at hge
    have hk0 : N - acc.length = 0 := by omega
    rw [hk0, decGo, decEnd] at hd
    simp only at hd
    have hn1 : n1 = r.length := hrr.2.1
    refine ⟨fun hgt => ?_, fun hle => ?_⟩
    · have hr0 : r ≠ [] := fun e => by simp only [decide_eq_true_eq] at hgt; rw [e] at hn1; simp at hn1; omega
      rw [if_neg hr0] at hd
      exact ⟨_, rfl, by rw [hd]; exact .no hg _⟩
    · have hr0 : r = [] := List.eq_nil_of_length_eq_zero (by simp only [decide_eq_false_iff_not] at hle; omega)
      rw [if_pos hr0] at hd
      exact ⟨_, rfl, by rw [hd]; exact ⟨_, _, _, rfl, ho, hg⟩⟩

theorem Reads.lt {w : World} {a : Option Addr} {n c : Nat} {l : List Int} (h : Reads w (Enc.int .u8) (a, n, c) l) : ∀ x, Blk a x → l ≠ [] → x < w.heap.size := by
  rintro x ⟨d, hd, rfl⟩ hne
  have hn : n = l.length := h.2.1
  have hp : 0 < l.length := List.length_pos_iff.2 hne
  obtain ⟨d', y, hd', -, hc⟩ := h.at0 (k := 0) (by omega)
  rw [hd] at hd'; cases hd'
  exact World.block_lt_of_cell? w _ (show w.cell? d = some (.int .u8 y) by simpa [Enc.int, CellsAt, Addr.add_zero'] using hc.1)
end Go.Proofs.Ytnbknhcpjggabaa
