/- What Encode hands back. Conditions: none. -/
import Derived.Test.YtnbknhcpjggabaaProg
import Derived.Test.YtnbknhcpjggabaaBucket1
namespace Go.Proofs.Ytnbknhcpjggabaa
open Go.Sx
set_option maxRecDepth 100000
set_option linter.unusedVariables false
set_option linter.unusedSimpArgs false
/- reprise/bucket.Encode -/
def sx10 (cells : Option Addr) (cells_n cells_c : Nat) (R : Ending → World → Prop) (w : World) : Prop :=
  (((decide (((cells_n : Nat) : Int) > 16)) = true → R (.returned (.tuple #[.slice none 0 0, .int .i64 6])) w) ∧ ((decide (((cells_n : Nat) : Int) > 16)) = false → (((((cells_n : Nat) : Int) == 0) = true → R (.returned
    (.tuple #[.slice none 0 0, .int .i64 0])) w) ∧ ((((cells_n : Nat) : Int) == 0) = false → ∀ n1 : Int, n1 = IntKind.u64.wrap ((cells_n : Nat) : Int) → CallsW Try.prog 22 [.int .u64 n1] w (RetR R fun u3 w2 => ∃ (a4 :
    Option Addr) (l4 c4 : Nat), u3 = .slice a4 l4 c4 ∧ ∃ (I6 : Option Addr → Nat → Nat → Int → World → Prop) (m6 : Option Addr → Nat → Nat → Int → World → Nat), I6 a4 l4 c4 0 w2 ∧ ∀ (a7 : Option Addr) (l7 c7 : Nat) (n8 :
    Int) (w9 : World), I6 a7 l7 c7 n8 w9 → (((decide (n8 < ((cells_n : Nat) : Int))) = true → withSome cells (fun d10 => (0 ≤ n8 ∧ n8 < (cells_n : Nat)) ∧ ∃ (n11 : Int) (b12 : Bool) (n13 : Int) (b14 : Bool) (n15 : Int)
    (n16 : Int), CellsAt w9 (Addr.add d10 (n8.toNat * 6)) 0 [.int .u64 n11, .bool b12, .int .u64 n13, .bool b14, .int .u64 n15, .int .i64 n16] ∧ ∀ w17, Grew w9 w17 → (0 ≤ IntKind.i64.wrap (n8 + 1) ∧ IntKind.i64.wrap (n8 +
    1) ≤ (cells_c : Nat)) ∧ (0 ≤ (if (IntKind.i64.wrap (n8 - 1) : Int) > 0 then IntKind.i64.wrap (n8 - 1) else 0) ∧ (if (IntKind.i64.wrap (n8 - 1) : Int) > 0 then IntKind.i64.wrap (n8 - 1) else 0) ≤ ((IntKind.i64.wrap (n8
    + 1)).toNat : Nat)) ∧ CallsW Try.prog 23 [.slice (if cells_c = (if (IntKind.i64.wrap (n8 - 1) : Int) > 0 then IntKind.i64.wrap (n8 - 1) else 0).toNat then cells else Option.map (fun x => Addr.add x ((if
    (IntKind.i64.wrap (n8 - 1) : Int) > 0 then IntKind.i64.wrap (n8 - 1) else 0).toNat * 6)) cells) (((IntKind.i64.wrap (n8 + 1)).toNat) - (if (IntKind.i64.wrap (n8 - 1) : Int) > 0 then IntKind.i64.wrap (n8 - 1) else
    0).toNat) (cells_c - (if (IntKind.i64.wrap (n8 - 1) : Int) > 0 then IntKind.i64.wrap (n8 - 1) else 0).toNat)] w17 (RetR R fun u19 w18 => ∃ (b20 : Bool), u19 = .bool b20 ∧ (((!b20) = true → R (.returned (.tuple
    #[.slice none 0 0, .int .i64 7])) w18) ∧ ((!b20) = false → (((decide (n16 < 0)) = true → R (.returned (.tuple #[.slice none 0 0, .int .i64 1])) w18) ∧ ((decide (n16 < 0)) = false → (((decide (n16 > 1099511627776)) =
    true → R (.returned (.tuple #[.slice none 0 0, .int .i64 1])) w18) ∧ ((decide (n16 > 1099511627776)) = false → CallsW Try.prog 24 [.agg #[.bool b12, .int .u64 n13]] w18 (RetR R fun u23 w22 => ∃ (b24 : Bool), u23 =
    .bool b24 ∧ (((!b24) = true → R (.returned (.tuple #[.slice none 0 0, .int .i64 1])) w22) ∧ ((!b24) = false → CallsW Try.prog 24 [.agg #[.bool b14, .int .u64 n15]] w22 (RetR R fun u27 w26 => ∃ (b28 : Bool), u27 =
    .bool b28 ∧ (((!b28) = true → R (.returned (.tuple #[.slice none 0 0, .int .i64 1])) w26) ∧ ((!b28) = false → CallsW Try.prog 25 [.agg #[.int .u64 n11, .bool b12, .int .u64 n13, .bool b14, .int .u64 n15, .int .i64
    n16]] w26 (RetR R fun u31 w30 => ∃ (a32 : Option Addr) (l32 c32 : Nat), u31 = .slice a32 l32 c32 ∧ SemW Try.prog (Builtin.append_ #[24, 24] 24 #[.slice a7 l7 c7, .slice a32 l32 c32]) (fun u35 w34 => ∃ (a36 : Option
    Addr) (l36 c36 : Nat), u35 = .slice a36 l36 c36 ∧ (I6 a36 l36 c36 (IntKind.i64.wrap (n8 + 1)) w34 ∧ m6 a36 l36 c36 (IntKind.i64.wrap (n8 + 1)) w34 < m6 a7 l7 c7 n8 w9)) w30)))))))))))))))) ∧ ((decide (n8 < ((cells_n :
    Nat) : Int))) = false → R (.returned (.tuple #[.slice a7 l7 c7, .int .i64 0])) w9)))))))
theorem sx10.ok {cells : Option Addr} {cells_n cells_c : Nat} {R : Ending → World → Prop} {w : World} (h : sx10 cells cells_n cells_c R w) : CallsW Try.prog 10 [.slice cells cells_n cells_c] w R :=
  callsW_of mix Try.func10 (by kernel_rfl) (by kernel_rfl) (Eq.mpr (by kernel_rfl : denFn Try.prog { locals := [6], sem := [60], named := [17], loops := [(7, { slots := [(4, .slice), (21, .int .i64)], cells := [] })] } Try.f10 [.slice cells cells_n cells_c] R w = sx10 cells cells_n cells_c R w) h)


/-- bytes and an error -/
def BytesErr (w : World) (r : List Int × Int) (v : Value) (w' : World) : Prop := ∃ a n c, v = .tuple #[.slice a n c, .int .i64 r.2] ∧ Own w' w.heap.size 5 (Enc.int .u8) a n c r.1 ∧ Grew w w'
theorem BytesErr.no {w w' : World} (hg : Grew w w') (e : Int) : BytesErr w ([], e) (.tuple #[.slice none 0 0, .int .i64 e]) w' := ⟨none, 0, 0, rfl, Own.nil _ _ _ _, hg⟩

theorem Encode_ok {a : Option Addr} {n c : Nat} {l : List CellV} {w : World} (hr : Reads w Enc.cell (a, n, c) l) (hf : Cells l) (hn : l.length ≤ 9223372036854775807) : CallsW Try.prog 10 [.slice a n c] w (Rets (BytesErr w (encodeB l))) := by
  refine sx10.ok ?_
  unfold sx10
  have hnl : n = l.length := hr.2.1
  have hnc : n ≤ c := hr.2.2.2
  subst hnl
  refine ⟨fun h => ?_, fun h16 => ⟨fun h => ?_, fun h0 => ?_⟩⟩
  · simp only [decide_eq_true_eq] at h
    refine ⟨_, rfl, ?_⟩
    rw [encodeB, if_pos (by omega)]; exact .no (Grew.refl _) _
  · simp only [beq_iff_eq] at h
    refine ⟨_, rfl, ?_⟩
    rw [encodeB, if_neg (by omega), if_pos (List.eq_nil_of_length_eq_zero (by omega))]; exact .no (Grew.refl _) _
  simp only [decide_eq_false_iff_not] at h16
  simp only [beq_eq_false_iff_ne, ne_eq] at h0
  have henc : encodeB l = encGo (putB l.length) none l := by rw [encodeB, if_neg (by omega), if_neg (fun h => by rw [h] at h0; exact h0 rfl)]
  rintro n1 rfl
  have hwl : IntKind.u64.wrap (l.length : Int) = l.length := by rw [IntKind.wrap_u64]; omega
  rw [hwl]
  have hu : (l.length : Int) < u64m := by simp only [u64m]; omega
  refine (Put_ok (by omega) hu).use fun v w2 ⟨a4, l4, c4, hv, ho4, hg4⟩ => ?_
  subst hv
  have hp10 := putB_len10 hu
  refine ⟨a4, l4, c4, rfl, fun a7 l7 c7 i w' => ∃ (k : Nat) (acc : List Int), i = k ∧ k ≤ l.length ∧ Own w' w.heap.size 5 (Enc.int .u8) a7 l7 c7 acc ∧ Grew w w' ∧ acc.length ≤ 10 + 37 * k ∧ encodeB l = encGo acc (if k = 0 then none else (l[k - 1]?).map CellV.key) (l.drop k), fun _ _ _ i _ => l.length - i.toNat, ⟨0, _, rfl, Nat.zero_le _, ho4, hg4, by omega, henc⟩, ?_⟩
  rintro a7 l7 c7 i w' ⟨k, acc, rfl, hk, ho, hg, hal, he⟩
  refine ⟨fun hlt => ?_, fun hge => ?_⟩
  · simp only [decide_eq_true_eq] at hlt
    obtain ⟨d, x, had, hx, hc⟩ := (hr.grew hg).1.at_ (n := k) (by omega) hlt
    obtain rfl : a = some d := had
    simp only [Int.toNat_natCast] at hx hc
    rw [drop_cons hx, encGo] at he
    have hxf := hf.get hx
    refine ⟨by omega, x.key, x.ph, x.pb, x.ch, x.cb, x.batch, by simpa [CellV.vals, Enc.cell] using hc, fun w17 hg17 => ?_⟩
    have hw1 : IntKind.i64.wrap ((k : Int) - 1) = (k : Int) - 1 := by rw [IntKind.wrap_i64]; omega
    have hw2 : IntKind.i64.wrap ((k : Int) + 1) = ((k + 1 : Nat) : Int) := by rw [IntKind.wrap_i64]; omega
    have hmax : (if (IntKind.i64.wrap ((k : Int) - 1) : Int) > 0 then IntKind.i64.wrap ((k : Int) - 1) else 0) = ((k - 1 : Nat) : Int) := by rw [hw1]; split <;> omega
    rw [hmax, hw2]
    refine ⟨by omega, by omega, ?_⟩
    simp only [Int.toNat_natCast]
    have hg' := hg.trans hg17
    have hcut := (hr.grew hg').cut (i := k - 1) (j := k + 1) (by omega) (by omega)
    refine (inOrder_ok hcut (by simp; omega)).use fun v w18 ⟨hv, hg18⟩ => ?_
    subst hv
    have hg18' := hg'.trans hg18
    have hris : (!risingB ((l.take (k + 1)).drop (k - 1))) = (if k = 0 then none else (l[k - 1]?).map CellV.key).any (fun q => decide (x.key ≤ q)) := by
      by_cases hk0 : k = 0
      · subst hk0
        have : (l.take 1).drop (0 - 1) = [x] := by rw [take_snoc hx]; simp
        rw [this]; rfl
      · rw [if_neg hk0]
        obtain ⟨y, hy⟩ : ∃ y, l[k - 1]? = some y := ⟨l[k - 1]'(by omega), by simp⟩
        have hy' := drop_cons hy
        have : (l.take (k + 1)).drop (k - 1) = [y, x] := by
          rw [List.drop_take, hy', show k - 1 + 1 = k from by omega, drop_cons hx, show k + 1 - (k - 1) = 2 from by omega]; rfl
        rw [this, hy]
        simp only [risingB, Option.map_some, Option.any, Bool.and_true]
        by_cases hq : y.key < x.key
        · have : ¬ x.key ≤ y.key := by omega
          simp [hq, this]
        · have : x.key ≤ y.key := by omega
          simp [hq, this]
    refine ⟨_, rfl, ?_⟩
    rw [hris]
    refine ⟨fun h => ?_, fun h => ?_⟩
    · rw [if_pos h] at he
      exact ⟨_, rfl, by rw [he]; exact .no hg18' _⟩
    rw [if_neg (by rw [h]; simp)] at he
    have bad : (x.batch < 0 ∨ 1099511627776 < x.batch ∨ valOk x.ph x.pb = false ∨ valOk x.ch x.cb = false) → encodeB l = ([], 1) := fun h => by rw [he, if_pos h]
    refine ⟨fun hb => ⟨_, rfl, by rw [bad (.inl (by simpa using hb))]; exact .no hg18' _⟩, fun hb => ⟨fun hb2 => ⟨_, rfl, by rw [bad (.inr (.inl (by simpa using hb2)))]; exact .no hg18' _⟩, fun hb2 => ?_⟩⟩
    refine isValue_ok.use fun v w22 ⟨hv, hg22⟩ => ?_
    subst hv
    have hg22' := hg18'.trans hg22
    refine ⟨_, rfl, fun hv1 => ⟨_, rfl, by rw [bad (.inr (.inr (.inl (by simpa [valOk] using hv1))))]; exact .no hg22' _⟩, fun hv1 => ?_⟩
    refine isValue_ok.use fun v w26 ⟨hv, hg26⟩ => ?_
    subst hv
    have hg26' := hg22'.trans hg26
    refine ⟨_, rfl, fun hv2 => ⟨_, rfl, by rw [bad (.inr (.inr (.inr (by simpa [valOk] using hv2))))]; exact .no hg26' _⟩, fun hv2 => ?_⟩
    have good : ¬ (x.batch < 0 ∨ 1099511627776 < x.batch ∨ valOk x.ph x.pb = false ∨ valOk x.ch x.cb = false) := by
      simp only [decide_eq_false_iff_not] at hb hb2
      have e1 : valOk x.ph x.pb = true := by cases hh : x.ph <;> simp_all [valOk]
      have e2 : valOk x.ch x.cb = true := by cases hh : x.ch <;> simp_all [valOk]
      rw [e1, e2]; simp; omega
    rw [if_neg good] at he
    refine (cellBytes_ok hxf).use fun v w30 ⟨a32, l32, c32, hv, ho32, hg32⟩ => ?_
    subst hv
    have hcl := cellB_len hxf
    have hg32' := hg26'.trans hg32
    have hrest : Grew w' w30 := hg17.trans (hg18.trans (hg22.trans (hg26.trans hg32)))
    refine ⟨a32, l32, c32, rfl, append_sl e8 (ho.grew hrest) ho32.sl ho32.len ho32.out_none hg32'.size (by simp only [maxLen]; omega) (by omega) ?_⟩
    rintro v w34 ⟨a36, l36, c36, rfl, ho36, hu36, -⟩
    refine ⟨a36, l36, c36, rfl, ⟨k + 1, _, rfl, by omega, ho36, hg32'.then_own hu36 fun b hb => ((ho.grew hrest).blk hb).1, by simp only [List.length_append]; omega, ?_⟩, ?_⟩
    · rw [he]
      simp only [Nat.add_one_ne_zero, if_false, Nat.add_sub_cancel]
      rw [hx]; rfl
    · show l.length - (((k + 1 : Nat) : Int)).toNat < l.length - ((k : Int)).toNat
      omega
  · simp only [decide_eq_false_iff_not] at hge
    rw [drop_all (by omega), encGo] at he
    exact ⟨_, rfl, by rw [he]; exact ⟨a7, l7, c7, rfl, ho, hg⟩⟩
end Go.Proofs.Ytnbknhcpjggabaa
