/- What reader.cell and Decode hand back. Conditions: none. -/
import Derived.Test.YtnbknhcpjggabaaProg
import Derived.Test.YtnbknhcpjggabaaBucket3
namespace Go.Proofs.Ytnbknhcpjggabaa
open Go.Sx
set_option maxRecDepth 100000
set_option linter.unusedVariables false
set_option linter.unusedSimpArgs false
/- reprise/bucket.Decode -/
def sx12 (b : Option Addr) (b_n b_c : Nat) (R : Ending → World → Prop) (w : World) : Prop :=
  (((((b_n : Nat) : Int) == 0) = true → R (.returned (.tuple #[.slice none 0 0, .int .i64 0])) w) ∧ ((((b_n : Nat) : Int) == 0) = false → ∀ (b1 : Nat) (w2 : World), Alloc w w2 b1 (.cells [.slice b b_n b_c, .int .i64
    0].toArray 55) → CallsW Try.prog 29 [.pointer (some ⟨b1, 0, none⟩)] w2 (RetR R fun u4 w3 => ∃ (n5 : Int), u4 = .int .u64 n5 ∧ ∃ (J7 : World → Prop), ((((n5 == 0) = true → CallsW Try.prog 30 [.pointer (some ⟨b1, 0,
    none⟩), .int .i64 4] w3 (RetR R fun u9 w8 => u9 = .tuple #[] ∧ J7 w8)) ∧ ((n5 == 0) = false → (((decide (n5 > 16)) = true → CallsW Try.prog 30 [.pointer (some ⟨b1, 0, none⟩), .int .i64 6] w3 (RetR R fun u12 w11 => u12
    = .tuple #[] ∧ J7 w11)) ∧ ((decide (n5 > 16)) = false → J7 w3))))) ∧ ∀  (w14 : World), J7 w14 → ∃ (I15 : Int → Option Addr → Nat → Nat → World → Prop) (m15 : Int → Option Addr → Nat → Nat → World → Nat), I15 n5 none 0
    0 w14 ∧ ∀ (n16 : Int) (a17 : Option Addr) (l17 c17 : Nat) (w18 : World), I15 n16 a17 l17 c17 w18 → (((decide (n16 > 0)) = true → ∃ (n19 : Int), w18.cell? ⟨b1, 1, none⟩ = some (.int .i64 n19) ∧ (((n19 == 0) = true →
    CallsW Try.prog 31 [.pointer (some ⟨b1, 0, none⟩), .slice a17 l17 c17] w18 (RetR R fun u21 w20 => ∃ (n22 : Int) (b23 : Bool) (n24 : Int) (b25 : Bool) (n26 : Int) (n27 : Int), u21 = .agg #[.int .u64 n22, .bool b23,
    .int .u64 n24, .bool b25, .int .u64 n26, .int .i64 n27] ∧ ∀ (b29 : Nat) (w30 : World), Alloc w20 w30 b29 (.cells #[.int .u64 n22, .bool b23, .int .u64 n24, .bool b25, .int .u64 n26, .int .i64 n27] 37) → SemW Try.prog
    (Builtin.append_ #[22, 22] 22 #[.slice a17 l17 c17, .slice (some ⟨b29, 0, none⟩) 1 1]) (fun u32 w31 => ∃ (a33 : Option Addr) (l33 c33 : Nat), u32 = .slice a33 l33 c33 ∧ (I15 (IntKind.u64.wrap (n16 - 1)) a33 l33 c33
    w31 ∧ m15 (IntKind.u64.wrap (n16 - 1)) a33 l33 c33 w31 < m15 n16 a17 l17 c17 w18)) w30)) ∧ ((n19 == 0) = false → ∃ (a34 : Option Addr) (l34 c34 : Nat), w18.cell? ⟨b1, 0, none⟩ = some (.slice a34 l34 c34) ∧ (((decide
    (((l34 : Nat) : Int) > 0)) = true → CallsW Try.prog 30 [.pointer (some ⟨b1, 0, none⟩), .int .i64 5] w18 (RetR R fun u36 w35 => u36 = .tuple #[] ∧ ∃ (n38 : Int), w35.cell? ⟨b1, 1, none⟩ = some (.int .i64 n38) ∧ (((n38
    != 0) = true → ∃ (n39 : Int), w35.cell? ⟨b1, 1, none⟩ = some (.int .i64 n39) ∧ ∀ w40, Grew w35 w40 → R (.returned (.tuple #[.slice none 0 0, .int .i64 n39])) w40) ∧ ((n38 != 0) = false → R (.returned (.tuple #[.slice
    a17 l17 c17, .int .i64 0])) w35)))) ∧ ((decide (((l34 : Nat) : Int) > 0)) = false → ∃ (n41 : Int), w18.cell? ⟨b1, 1, none⟩ = some (.int .i64 n41) ∧ (((n41 != 0) = true → ∃ (n42 : Int), w18.cell? ⟨b1, 1, none⟩ = some
    (.int .i64 n42) ∧ ∀ w43, Grew w18 w43 → R (.returned (.tuple #[.slice none 0 0, .int .i64 n42])) w43) ∧ ((n41 != 0) = false → R (.returned (.tuple #[.slice a17 l17 c17, .int .i64 0])) w18))))))) ∧ ((decide (n16 > 0))
    = false → ∃ (a44 : Option Addr) (l44 c44 : Nat), w18.cell? ⟨b1, 0, none⟩ = some (.slice a44 l44 c44) ∧ (((decide (((l44 : Nat) : Int) > 0)) = true → CallsW Try.prog 30 [.pointer (some ⟨b1, 0, none⟩), .int .i64 5] w18
    (RetR R fun u46 w45 => u46 = .tuple #[] ∧ ∃ (n48 : Int), w45.cell? ⟨b1, 1, none⟩ = some (.int .i64 n48) ∧ (((n48 != 0) = true → ∃ (n49 : Int), w45.cell? ⟨b1, 1, none⟩ = some (.int .i64 n49) ∧ ∀ w50, Grew w45 w50 → R
    (.returned (.tuple #[.slice none 0 0, .int .i64 n49])) w50) ∧ ((n48 != 0) = false → R (.returned (.tuple #[.slice a17 l17 c17, .int .i64 0])) w45)))) ∧ ((decide (((l44 : Nat) : Int) > 0)) = false → ∃ (n51 : Int),
    w18.cell? ⟨b1, 1, none⟩ = some (.int .i64 n51) ∧ (((n51 != 0) = true → ∃ (n52 : Int), w18.cell? ⟨b1, 1, none⟩ = some (.int .i64 n52) ∧ ∀ w53, Grew w18 w53 → R (.returned (.tuple #[.slice none 0 0, .int .i64 n52]))
    w53) ∧ ((n51 != 0) = false → R (.returned (.tuple #[.slice a17 l17 c17, .int .i64 0])) w18)))))))))
theorem sx12.ok {b : Option Addr} {b_n b_c : Nat} {R : Ending → World → Prop} {w : World} (h : sx12 b b_n b_c R w) : CallsW Try.prog 12 [.slice b b_n b_c] w R :=
  callsW_of mix Try.func12 (by kernel_rfl) (by kernel_rfl) (Eq.mpr (by kernel_rfl : denFn Try.prog { sem := [41], loops := [(10, { slots := [(5, .int .u64), (6, .slice)], cells := [] })], cuts := [(9, { slots := [], cells := [] })] } Try.f12 [.slice b b_n b_c] R w = sx12 b b_n b_c R w) h)


theorem cell_ok {w : World} {B r : Nat} {s : RdS} {a : Option Addr} {n c : Nat} {l : List CellV} (h : Rd w B r s) (hb : Bytes s.1) (hl : s.1.length ≤ 9223372036854775807) (hr : Reads w Enc.cell (a, n, c) l) (hn : l.length < 9223372036854775807) (hbl : ¬ Blk a r) :
    CallsW Try.prog 31 [.pointer (some ⟨r, 0, none⟩), .slice a n c] w (Rets fun v w' => v = .agg (cellS (l.getLast?.map CellV.key) s).1.vals.toArray ∧ Steps w B r (cellS (l.getLast?.map CellV.key) s).2 w') := by
  refine sx31.ok ?_
  unfold sx31
  intro w1 hg1
  refine (number_ok (h.grew hg1) hb hl).use fun v w2 ⟨hv, h2, hu2⟩ => ?_
  subst hv
  refine ⟨_, rfl, fun w6 hg6 => ?_⟩
  have hu6 : Upd (fun b => b = r) w w6 := (hg1.then_upd hu2).then_grew hg6
  have hr6 := hr.upd hu6 fun b hb e => hbl (e ▸ hb)
  have hnl : n = l.length := hr.2.1
  obtain ⟨s2, hs2⟩ : ∃ s2, s2 = if (l.getLast?.map CellV.key).any (fun q => decide ((numS s).1 ≤ q)) = true then failS 7 (numS s).2 else (numS s).2 := ⟨_, rfl⟩
  have he2 : EndsR s s2 := (numS_ends s).trans (by rw [hs2]; split <;> first | exact failS_ends _ _ | exact .refl _)
  refine ⟨fun w' => Rd w' B r s2 ∧ Upd (fun b => b = r) w w', ⟨fun hpos => ?_, fun hz w15 hg15 => ?_⟩, ?_⟩
  · simp only [decide_eq_true_eq] at hpos
    have hw : IntKind.i64.wrap ((n : Int) - 1) = ((n - 1 : Nat) : Int) := by rw [IntKind.wrap_i64]; omega
    rintro n8 rfl
    rw [hw]
    obtain ⟨d, x, rfl, hx, hcx⟩ := hr6.at0 (k := n - 1) (by omega)
    have hlast : l.getLast? = some x := by rw [getLast_get, ← hnl]; exact hx
    rw [hlast] at hs2
    refine ⟨by omega, x.key, by simpa [Addr.add_zero', Enc.cell] using hcx.1, fun w11 hg11 => ⟨fun hle => ?_, fun hle => ?_⟩⟩
    · rw [if_pos (by simpa using hle)] at hs2
      refine (fail_ok ((h2.grew hg6).grew hg11)).use fun v w12 ⟨hv, h12, hu12⟩ => ?_
      subst hv
      exact ⟨rfl, hs2 ▸ h12, (hu6.then_grew hg11).trans hu12⟩
    · rw [if_neg (by simpa using hle)] at hs2
      exact ⟨hs2 ▸ (h2.grew hg6).grew hg11, hu6.then_grew hg11⟩
  · simp only [decide_eq_false_iff_not] at hz
    have hnil : l = [] := List.eq_nil_of_length_eq_zero (by omega)
    rw [hnil] at hs2
    exact ⟨by rw [hs2]; exact (h2.grew hg6).grew hg15, hu6.then_grew hg15⟩
  rintro w16 ⟨h16, hu16⟩
  refine (flags_ok h16).use fun v w17 ⟨hv, h17, hu17⟩ => ?_
  subst hv
  have hfr := flagsS_range (he2.bytes hb)
  obtain ⟨b1, b2⟩ := bits_flags hfr.1 hfr.2
  have he3 := he2.trans (flagsS_ends s2)
  refine ⟨_, rfl, ?_⟩
  rw [b1, b2]
  refine (value_ok h17 (he3.bytes hb)).use fun v w21 ⟨hv, h21, hu21⟩ => ?_
  subst hv
  have he4 := he3.trans (valueS_ends (decide ((flagsS s2).1 % 2 = 1)) _)
  refine ⟨_, _, rfl, ?_⟩
  refine (value_ok h21 (he4.bytes hb)).use fun v w26 ⟨hv, h26, hu26⟩ => ?_
  subst hv
  have he5 := he4.trans (valueS_ends (decide (2 ≤ (flagsS s2).1)) _)
  refine ⟨_, _, rfl, ?_⟩
  refine (number_ok h26 (he5.bytes hb) (Nat.le_trans he5.len hl)).use fun v w31 ⟨hv, h31, hu31⟩ => ?_
  subst hv
  have hu31' := hu16.trans (hu17.trans (hu21.trans (hu26.trans hu31)))
  refine ⟨_, rfl, fun hbig => ?_, fun hbig => ?_⟩
  · refine (fail_ok h31).use fun v w35 ⟨hv, h35, hu35⟩ => ?_
    subst hv
    refine ⟨rfl, _, rfl, ?_, ?_, hu31'.trans hu35⟩
    · unfold cellS; simp only; rw [← hs2]; rfl
    · unfold cellS; simp only; rw [← hs2, if_pos (by simpa using hbig)]; exact h35
  · refine ⟨_, rfl, ?_, ?_, hu31'⟩
    · unfold cellS; simp only; rw [← hs2]; rfl
    · unfold cellS; simp only; rw [← hs2, if_neg (by simpa using hbig)]; exact h31

theorem ec : ElemOk Try.prog 22 37 Enc.cell.sz 48 := ElemOk.mk' (z := .agg #[.int .u64 0, .bool false, .int .u64 0, .bool false, .int .u64 0, .int .i64 0]) (by kernel_rfl) (by kernel_rfl) (by kernel_rfl)

/-- cells and an error -/
def CellsErr (w : World) (r : List CellV × Int) (v : Value) (w' : World) : Prop := ∃ a n c, v = .tuple #[.slice a n c, .int .i64 r.2] ∧ Own w' w.heap.size 37 Enc.cell a n c r.1 ∧ Grew w w'
theorem CellsErr.no {w w' : World} (hg : Grew w w') (e : Int) : CellsErr w ([], e) (.tuple #[.slice none 0 0, .int .i64 e]) w' := ⟨none, 0, 0, rfl, Own.nil _ _ _ _, hg⟩

theorem Decode_ok {b : Option Addr} {n c : Nat} {l : List Int} {w : World} (hr : Reads w (Enc.int .u8) (b, n, c) l) (hb : Bytes l) (hl : l.length ≤ 9223372036854775807) : CallsW Try.prog 12 [.slice b n c] w (Rets (CellsErr w (decodeB l))) := by
  refine sx12.ok ?_
  unfold sx12
  have hn : n = l.length := hr.2.1
  refine ⟨fun h => ?_, fun h b1 w2 hal => ?_⟩
  · simp only [beq_iff_eq] at h
    refine ⟨_, rfl, ?_⟩
    rw [decodeB, if_pos (List.eq_nil_of_length_eq_zero (by omega))]
    exact .no (Grew.refl _) _
  have hpos : 0 < n := by simp at h; omega
  have hne : l ≠ [] := fun e => by rw [e] at hn; simp at hn; omega
  have hnb : ∀ x, Blk b x → x < w.heap.size := by
    obtain ⟨d, x, rfl, hx, hcx⟩ := hr.at0 hpos
    rintro y ⟨d', hd, rfl⟩
    cases hd
    have hlt := World.block_lt_of_cell? w _ (show w.cell? d = some (.int .u8 x) by simpa [Enc.int, CellsAt, Addr.add_zero'] using hcx.1)
    exact hlt
  have hrd : Rd w2 w.heap.size b1 (l, 0) := ⟨b, n, c, hal.at_, hr.grew hal.grew, hnb, hal.new⟩
  have hB := hal.new
  refine (number_ok hrd hb hl).use fun v w3 ⟨hv, h3, hu3⟩ => ?_
  subst hv
  have hnum := numS_num (s := (l, 0)) hb
  have hdec : decodeB l = decEnd (decGo (decStart l).1.toNat [] (decStart l).2) := by rw [decodeB, if_neg hne]
  refine ⟨_, rfl, fun w' => Rd w' w.heap.size b1 (decStart l).2 ∧ Upd (fun b => b = b1) w2 w', ⟨fun h0 => ?_, fun h0 => ⟨fun h16 => ?_, fun h16 => ?_⟩⟩, ?_⟩
  · simp only [beq_iff_eq] at h0
    refine (fail_ok h3).use fun v w8 ⟨hv, h8, hu8⟩ => ⟨hv, ?_, hu3.trans hu8⟩
    rw [decStart]; simp only [if_pos h0]; exact h8
  · simp only [beq_eq_false_iff_ne, ne_eq] at h0
    simp only [decide_eq_true_eq] at h16
    refine (fail_ok h3).use fun v w8 ⟨hv, h8, hu8⟩ => ⟨hv, ?_, hu3.trans hu8⟩
    rw [decStart]; simp only [if_neg h0, if_pos (show 16 < (numS (l, 0)).1 from h16)]; exact h8
  · simp only [beq_eq_false_iff_ne, ne_eq] at h0
    simp only [decide_eq_false_iff_not] at h16
    refine ⟨?_, hu3⟩
    rw [decStart]; simp only [if_neg h0, if_neg (show ¬ 16 < (numS (l, 0)).1 from h16)]; exact h3
  rintro w14 ⟨h14, hu14⟩
  have hend0 : EndsR (l, 0) (decStart l).2 := by
    rw [decStart]; simp only
    refine (numS_ends _).trans ?_
    split
    · exact failS_ends _ _
    · split <;> first | exact failS_ends _ _ | exact .refl _
  have hsmall : (decStart l).2.2 = 0 → (decStart l).1.toNat ≤ 16 := by
    rw [decStart]; simp only
    intro h
    by_cases h0 : (numS (l, 0)).1 = 0
    · rw [h0]; decide
    · rw [if_neg h0] at h
      by_cases h16 : 16 < (numS (l, 0)).1
      · rw [if_pos h16, failS] at h
        split at h
        · cases h
        · rename_i h'; exact absurd h h'
      · omega
  have hg14 : Grew w w14 := hal.grew.then_own hu14 fun b hb => by subst hb; exact hB
  refine ⟨fun i a1 n1 c1 w' => ∃ (k : Nat) (acc : List CellV) (s : RdS), i = k ∧ Own w' w.heap.size 37 Enc.cell a1 n1 c1 acc ∧ Rd w' w.heap.size b1 s ∧ ¬ Blk a1 b1 ∧ Grew w w' ∧ EndsR (l, 0) s ∧ (s.2 = 0 → acc.length + k ≤ 16) ∧ acc.length ≤ 16 ∧ b1 < w'.heap.size ∧ decodeB l = decEnd (decGo k acc s), fun i _ _ _ _ => i.toNat,
    ⟨(decStart l).1.toNat, [], _, by show (numS (l, 0)).1 = _; rw [decStart]; simp only; omega, Own.nil _ _ _ _, h14, Blk.none, hg14, hend0, by simpa using hsmall, by simp, Nat.lt_of_lt_of_le hal.lt hu14.size, hdec⟩, ?_⟩
  rintro i a1 n1 c1 w' ⟨k, acc, s, rfl, ho, hrd', hnb1, hg, hends, hk16, ha16, hbs, he⟩
  refine ⟨fun hn0 => ⟨s.2, hrd'.e, fun he0 => ?_, fun he0 => ?_⟩, fun hn0 => ?_⟩
  · simp only [decide_eq_true_eq] at hn0
    have he0' : s.2 = 0 := by simpa using he0
    have hkk := hk16 he0'
    obtain ⟨k, rfl⟩ : ∃ j, k = j + 1 := ⟨k - 1, by omega⟩
    rw [decGo, if_pos he0'] at he
    refine (cell_ok hrd' (hends.bytes hb) (Nat.le_trans hends.len hl) ho.reads (by omega) hnb1).use fun v w20 ⟨hv, h20, hu20⟩ => ?_
    subst hv
    refine ⟨_, _, _, _, _, _, rfl, fun b29 w30 hal30 => ?_⟩
    have ho20 := ho.upd hu20 fun b hb e => hnb1 (e ▸ hb)
    have hg20 := hg.then_own hu20 fun b hb => by subst hb; exact hB
    refine append_new (l2 := [_]) ec ho20 hal30 (by simp only [List.flatMap_cons, List.flatMap_nil, List.append_nil]; rfl) rfl (Nat.le_trans hg.size hu20.size) (by simp [maxLen]; omega) (by simp; omega) ?_
    rintro v w31 ⟨a33, n33, c33, rfl, ho33, hu33, hb33⟩
    have hnb33 : ¬ Blk a33 b1 := fun hx => by
      rcases hb33 b1 hx with h | h
      · exact hnb1 h
      · have := hu20.size; omega
    have hwr : IntKind.u64.wrap (((k + 1 : Nat) : Int) - 1) = (k : Int) := by rw [IntKind.wrap_u64]; omega
    rw [hwr]
    refine ⟨a33, n33, c33, rfl, ⟨k, _, _, rfl, ho33, ?_, hnb33, hg20.then_own hu33 fun b hb => (ho20.blk hb).1, hends.trans (cellS_ends _ _), fun _ => by simp; omega, by simp; omega, Nat.lt_of_lt_of_le hbs (Nat.le_trans hu20.size hu33.size), he⟩, by show ((k : Int)).toNat < (((k + 1 : Nat) : Int)).toNat; omega⟩
    obtain ⟨a', n', c', q1, q2, q3⟩ := h20
    refine ⟨a', n', c', q1.upd hu33 hnb1, q2.upd hu33 fun b hb hx => ?_, q3⟩
    have := q3.1 b hb
    have := (ho20.blk hx).1
    omega
  all_goals
    have hstop : decGo k acc s = (acc, s) := decGo_stop (by first | (left; simp at hn0; omega) | (right; simpa using he0))
    rw [hstop] at he
    obtain ⟨a', n', c', hc', hr', hbl'⟩ := hrd'.rest
    have hn' : n' = s.1.length := hr'.2.1
    refine ⟨a', n', c', hc', fun hgt => ?_, fun hle => ?_⟩
    · simp only [decide_eq_true_eq] at hgt
      have hs1 : s.1 ≠ [] := fun e => by rw [e] at hn'; simp at hn'; omega
      refine (fail_ok hrd').use fun v w35 ⟨hv, h35, hu35⟩ => ?_
      subst hv
      have hg35 := hg.then_own hu35 fun b hb => by subst hb; exact hB
      rw [decEnd] at he
      simp only [if_neg hs1] at he
      refine ⟨rfl, _, h35.e, fun hz => ⟨_, h35.e, fun w40 hg40 => ⟨_, rfl, ?_⟩⟩, fun hz => ⟨_, rfl, ?_⟩⟩
      · rw [if_neg (by simpa using hz)] at he
        rw [he]; exact .no (hg35.trans hg40) _
      · rw [if_pos (by simpa using hz)] at he
        rw [he]; exact ⟨_, _, _, rfl, ho.upd hu35 fun b hb e => hnb1 (e ▸ hb), hg35⟩
    · simp only [decide_eq_false_iff_not] at hle
      have hs1 : s.1 = [] := List.eq_nil_of_length_eq_zero (by omega)
      rw [decEnd] at he
      simp only [if_pos hs1] at he
      refine ⟨_, hrd'.e, fun hz => ⟨_, hrd'.e, fun w40 hg40 => ⟨_, rfl, ?_⟩⟩, fun hz => ⟨_, rfl, ?_⟩⟩
      · rw [if_neg (by simpa using hz)] at he
        rw [he]; exact .no (hg.trans hg40) _
      · rw [if_pos (by simpa using hz)] at he
        rw [he]; exact ⟨_, _, _, rfl, ho, hg⟩
end Go.Proofs.Ytnbknhcpjggabaa
