/- SourceReads: what it computes, and its row. Conditions: none. -/
import Derived.Test.YtifhpmmdfjmppaaProg
import Derived.Test.YtifhpmmdfjmppaaKindsS
import Derived.Test.YtifhpmmdfjmppaaRows
namespace Go.Proofs.Ytifhpmmdfjmppaa
open Go.Sx
set_option maxRecDepth 100000
set_option linter.unusedVariables false
set_option linter.unusedSimpArgs false
/- reprise/repriselaw06.SourceReads -/
def sx6 (d : Option Addr) (d_n d_c : Nat) (i : Option Addr) (i_n i_c : Nat) (p2 : Int) (R : Ending → World → Prop) (w : World) : Prop :=
  CallsW Try.prog 7 [] w (RetR R fun u2 w1 => ∃ (b3 : Bool), u2 = .bool b3 ∧ (((!b3) = true → R (.returned (.bool false)) w1) ∧ ((!b3) = false → CallsW Try.prog 17 [.slice d d_n d_c, .slice i i_n i_c] w1 (RetR R fun u6 w5
    => ∃ (p7 : Option Addr), u6 = .pointer p7 ∧ (((Option.isNone p7) = true → CallsW Try.prog 9 [.slice d d_n d_c] w5 (RetR R fun u10 w9 => ∃ (n11 : Int), u10 = .int .i64 n11 ∧ R (.returned (.bool (n11 != 0))) w9)) ∧
    ((Option.isNone p7) = false → (((9 : Int) = 0 → R (.panicked (divPanic Try.prog)) w5) ∧ ((9 : Int) ≠ 0 → ∀ n13 : Int, n13 = Int.tmod (IntKind.u64.wrap p2) 9 → ∀ n14 : Int, n14 = IntKind.i64.wrap ((1 : Int) +
    (IntKind.i64.wrap n13)) → ∃ (I15 : Int → World → Prop) (m15 : Int → World → Nat), I15 0 w5 ∧ ∀ (n16 : Int) (w17 : World), I15 n16 w17 → (((decide (n16 < 2)) = true → CallsW Try.prog 15 [.pointer p7, .int .i64 n16] w17
    (RetR R fun u19 w18 => ∃ (a20 : Option Addr) (l20 c20 : Nat), u19 = .slice a20 l20 c20 ∧ ∃ (I22 : Option Addr → Nat → Nat → World → Prop) (m22 : Option Addr → Nat → Nat → World → Nat), I22 none 0 0 w18 ∧ ∀ (a23 :
    Option Addr) (l23 c23 : Nat) (w24 : World), I22 a23 l23 c23 w24 → (((decide (((l23 : Nat) : Int) < ((l20 : Nat) : Int))) = true → CallsW Try.prog 18 [.pointer p7, .int .i64 n16, .int .i64 ((l23 : Nat) : Int), .int
    .i64 n14] w24 (RetR R fun u26 w25 => ∃ (a27 : Option Addr) (l27 c27 : Nat) (n28 : Int), u26 = .tuple #[.slice a27 l27 c27, .int .i64 n28] ∧ (((n28 != 0) = true → R (.returned (.bool false)) w25) ∧ ((n28 != 0) = false
    → (((decide (((l27 : Nat) : Int) < 1)) = true → R (.returned (.bool false)) w25) ∧ ((decide (((l27 : Nat) : Int) < 1)) = false → (((decide (((l27 : Nat) : Int) > n14)) = true → R (.returned (.bool false)) w25) ∧
    ((decide (((l27 : Nat) : Int) > n14)) = false → SemW Try.prog (Builtin.append_ #[44, 44] 44 #[.slice a23 l23 c23, .slice a27 l27 c27]) (fun u31 w30 => ∃ (a32 : Option Addr) (l32 c32 : Nat), u31 = .slice a32 l32 c32 ∧
    (I22 a32 l32 c32 w30 ∧ m22 a32 l32 c32 w30 < m22 a23 l23 c23 w24)) w25)))))))) ∧ ((decide (((l23 : Nat) : Int) < ((l20 : Nat) : Int))) = false → CallsW Try.prog 18 [.pointer p7, .int .i64 n16, .int .i64 ((l20 : Nat) :
    Int), .int .i64 n14] w24 (RetR R fun u34 w33 => ∃ (a35 : Option Addr) (l35 c35 : Nat) (n36 : Int), u34 = .tuple #[.slice a35 l35 c35, .int .i64 n36] ∧ (((n36 != 0) = true → R (.returned (.bool false)) w33) ∧ ((n36 !=
    0) = false → (((((l35 : Nat) : Int) != 0) = true → R (.returned (.bool false)) w33) ∧ ((((l35 : Nat) : Int) != 0) = false → CallsW Try.prog 16 [.slice a23 l23 c23, .slice a20 l20 c20] w33 (RetR R fun u39 w38 => ∃ (b40
    : Bool), u39 = .bool b40 ∧ (((!b40) = true → R (.returned (.bool false)) w38) ∧ ((!b40) = false → CallsW Try.prog 19 [.pointer p7, .int .i64 n16, .bool false] w38 (RetR R fun u43 w42 => ∃ (n44 : Int), u43 = .int .i64
    n44 ∧ (((n44 != 0) = true → R (.returned (.bool false)) w42) ∧ ((n44 != 0) = false → CallsW Try.prog 20 [.pointer p7, .int .i64 n16] w42 (RetR R fun u47 w46 => ∃ (b48 : Bool), u47 = .bool b48 ∧ ((b48 = true → R
    (.returned (.bool false)) w46) ∧ (b48 = false → CallsW Try.prog 18 [.pointer p7, .int .i64 n16, .int .i64 0, .int .i64 n14] w46 (RetR R fun u51 w50 => ∃ (a52 : Option Addr) (l52 c52 : Nat) (n53 : Int), u51 = .tuple
    #[.slice a52 l52 c52, .int .i64 n53] ∧ (((n53 != 63) = true → R (.returned (.bool false)) w50) ∧ ((n53 != 63) = false → (((((l52 : Nat) : Int) != 0) = true → R (.returned (.bool false)) w50) ∧ ((((l52 : Nat) : Int) !=
    0) = false → CallsW Try.prog 15 [.pointer p7, .int .i64 n16] w50 (RetR R fun u56 w55 => ∃ (a57 : Option Addr) (l57 c57 : Nat), u56 = .slice a57 l57 c57 ∧ CallsW Try.prog 16 [.slice a57 l57 c57, .slice a20 l20 c20] w55
    (RetR R fun u60 w59 => ∃ (b61 : Bool), u60 = .bool b61 ∧ (((!b61) = true → R (.returned (.bool false)) w59) ∧ ((!b61) = false → CallsW Try.prog 10 [.pointer p7, .int .i64 n16] w59 (RetR R fun u64 w63 => ∃ (n65 : Int),
    u64 = .int .i64 n65 ∧ (((n65 != ((l20 : Nat) : Int)) = true → R (.returned (.bool false)) w63) ∧ ((n65 != ((l20 : Nat) : Int)) = false → CallsW Try.prog 19 [.pointer p7, .int .i64 n16, .bool true] w63 (RetR R fun u68
    w67 => ∃ (n69 : Int), u68 = .int .i64 n69 ∧ (((n69 != 0) = true → R (.returned (.bool false)) w67) ∧ ((n69 != 0) = false → CallsW Try.prog 20 [.pointer p7, .int .i64 n16] w67 (RetR R fun u72 w71 => ∃ (b73 : Bool), u72
    = .bool b73 ∧ (((!b73) = true → R (.returned (.bool false)) w71) ∧ ((!b73) = false → CallsW Try.prog 18 [.pointer p7, .int .i64 n16, .int .i64 0, .int .i64 ((l20 : Nat) : Int)] w71 (RetR R fun u76 w75 => ∃ (a77 :
    Option Addr) (l77 c77 : Nat) (n78 : Int), u76 = .tuple #[.slice a77 l77 c77, .int .i64 n78] ∧ (((n78 != 0) = true → R (.returned (.bool false)) w75) ∧ ((n78 != 0) = false → CallsW Try.prog 16 [.slice a77 l77 c77,
    .slice a20 l20 c20] w75 (RetR R fun u81 w80 => ∃ (b82 : Bool), u81 = .bool b82 ∧ (((!b82) = true → R (.returned (.bool false)) w80) ∧ ((!b82) = false → (I15 (IntKind.i64.wrap (n16 + 1)) w80 ∧ m15 (IntKind.i64.wrap
    (n16 + 1)) w80 < m15 n16 w17))))))))))))))))))))))))))))))))))))))))))) ∧ ((decide (n16 < 2)) = false → R (.returned (.bool true)) w17))))))))))
theorem sx6.ok {d : Option Addr} {d_n d_c : Nat} {i : Option Addr} {i_n i_c : Nat} {p2 : Int} {R : Ending → World → Prop} {w : World} (h : sx6 d d_n d_c i i_n i_c p2 R w) : CallsW Try.prog 6 [.slice d d_n d_c, .slice i i_n i_c, .int .i64 p2] w R :=
  callsW_of mix Try.func6 (by kernel_rfl) (by kernel_rfl) (Eq.mpr (by kernel_rfl : denFn Try.prog { sem := [67], named := [28, 30], loops := [(12, { slots := [(11, .slice)], cells := [] }), (1008, { slots := [(9, .int .i64)], cells := [] })] } Try.f6 [.slice d d_n d_c, .slice i i_n i_c, .int .i64 p2] R w = sx6 d d_n d_c i i_n i_c p2 R w) h)


/-- a row of records that isn't the source's -/
structure RowOff (w : World) (x : SrcX) (a : Option Addr) (n c : Nat) (l : List RecV) : Prop where
  own : ∃ B, Own w B 34 Enc.rcd a n c l
  off : ∀ b, Blk a b → ¬ x.Foot b
theorem RowOff.fresh {w w' : World} {B : Nat} {x : SrcX} {v : SrcV} {a : Option Addr} {n c : Nat} {l : List RecV} (hS : SrA w B x v) (ho : Own w' w.heap.size 34 Enc.rcd a n c l) : RowOff w' x a n c l :=
  ⟨⟨_, ho⟩, fun b hb hf => by have := (ho.blk hb).1; have := (hS.foot hf).2; omega⟩
theorem RowOff.grew {w w' : World} {x : SrcX} {a : Option Addr} {n c : Nat} {l : List RecV} (h : RowOff w x a n c l) (hg : Grew w w') : RowOff w' x a n c l := ⟨let ⟨B, h⟩ := h.own; ⟨B, h.grew hg⟩, h.off⟩
theorem RowOff.moves {w w' : World} {x x' : SrcX} {a : Option Addr} {n c : Nat} {l : List RecV} (h : RowOff w x a n c l) (hu : Upd x.Foot w w') (hf : ∀ b, x'.Foot b → x.Foot b ∨ w.heap.size ≤ b) : RowOff w' x' a n c l := by
  obtain ⟨B, ho⟩ := h.own
  exact ⟨⟨B, ho.upd hu fun b hb => h.off b hb⟩, fun b hb hb' => (hf b hb').elim (h.off b hb) fun h' => by have := (ho.blk hb).2; omega⟩
theorem RowOff.reads {w : World} {x : SrcX} {a : Option Addr} {n c : Nat} {l : List RecV} (h : RowOff w x a n c l) : Reads w Enc.rcd (a, n, c) l := let ⟨_, h⟩ := h.own; h.reads
theorem RowOff.len {w : World} {x : SrcX} {a : Option Addr} {n c : Nat} {l : List RecV} (h : RowOff w x a n c l) : n = l.length := let ⟨_, h⟩ := h.own; h.len

theorem getP_setP {v : SrcV} {p : Int} {q q' : List RecV × Bool} (h : v.getP p = some q) : (v.setP p q').getP p = some q' := by
  obtain ⟨h0, h1, h2⟩ := getP_some h
  unfold SrcV.getP SrcV.setP
  rw [if_pos h0]
  simp only
  rw [List.getElem?_set, if_pos rfl, if_pos (by omega)]
def AllOn (v : SrcV) : Prop := ∀ q ∈ v.parts, q.2 = false
theorem allOn_set {v : SrcV} {p : Int} {q : List RecV × Bool} (h : ∀ (i : Nat) q, i ≠ p.toNat → v.parts[i]? = some q → q.2 = false) (hq : q.2 = false) : AllOn (v.setP p q) := by
  intro y hy
  obtain ⟨j, hj⟩ := List.getElem?_of_mem hy
  simp only [SrcV.setP] at hj
  rw [List.getElem?_set] at hj
  by_cases hpj : p.toNat = j
  · rw [if_pos hpj] at hj
    split at hj
    · cases hj; exact hq
    · cases hj
  · rw [if_neg hpj] at hj; exact h j y (fun e => hpj e.symm) hj
theorem allOn_produce {v : SrcV} {p : Int} {r : RecV} (h : AllOn v) : AllOn (v.produce p r).1 := by
  unfold SrcV.produce
  split
  · exact h
  · rename_i q hq
    have h1 : AllOn (v.setP p (q.1 ++ [r], q.2)) := allOn_set (fun i y _ hy => h y (List.mem_of_getElem? hy)) (h q (List.mem_of_getElem? (getP_some hq).2.2))
    split
    · exact h
    · split
      · split
        · exact h1
        · split
          · exact h
          · exact h1
      · exact h1
theorem allOn_fill (l : List OpV) (its : List ItemV) : AllOn (fillV l its) := by
  unfold fillV
  have : ∀ (its : List ItemV) (v : SrcV), AllOn v → AllOn (its.foldl (fun v x => (v.produce (itemP x) x.r).1) v) := by
    intro its
    induction its with
    | nil => intro v h; exact h
    | cons x r ih => intro v h; exact ih _ (allOn_produce h)
  exact this its _ fun q hq => by have := List.eq_of_mem_replicate hq; rw [this]

set_option maxHeartbeats 1000000 in
theorem SourceReads_ok {a b : Option Addr} {n c m d : Nat} {l : List OpV} {its : List ItemV} {piece : Int} {w : World} (hr : Reads w Enc.op3 (a, n, c) l) (hl : ∀ o ∈ l, o.Fits) (hn : l.length ≤ maxLen) (hb : l.length * 24 ≤ 140737488351232)
    (hi : Reads w Enc.item (b, m, d) its) (hf : ∀ x ∈ its, x.Fits) (hni : its.length ≤ maxLen) (hbi : its.length * 24 ≤ 140737488351232) (hpc : (Lit.int .i64 piece).wf = true) :
    CallsW Try.prog 6 [.slice a n c, .slice b m d, .int .i64 piece] w (Rets fun v w' => v = .bool true ∧ Grew w w') := by
  refine sx6.ok ?_
  unfold sx6
  refine awakeS_ok.use fun v w1 ⟨hv, hg1⟩ => ?_
  subst hv
  refine ⟨_, rfl, fun h => (by cases h), fun _ => ?_⟩
  refine (filled_ok (hr.grew hg1) hl (hi.grew hg1) hf).use fun v w5 ⟨hg5, hv⟩ => ?_
  have hg5' := hg1.trans hg5
  rcases hv with ⟨hc, hv⟩ | ⟨hc, x, hv, hS⟩
  · subst hv
    refine ⟨_, rfl, fun _ => (Check_ok (hr.grew hg5')).use fun v w9 ⟨hv, hg9⟩ => ?_, fun h => (by cases h)⟩
    subst hv
    rw [hc]
    exact ⟨_, rfl, _, rfl, rfl, hg5'.trans hg9⟩
  subst hv
  refine ⟨_, rfl, fun h => (by cases h), fun _ => ⟨fun h => (by cases h), fun _ n13 h13 n14 h14 => ?_⟩⟩
  have hmost : 1 ≤ n14 ∧ n14 ≤ 9 := by
    have h := IntKind.wrap_u64 piece
    have h1 : 0 ≤ IntKind.u64.wrap piece := by rw [h]; omega
    have h2 := Int.tmod_nonneg 9 h1
    have h3 := Int.tmod_lt_of_pos (IntKind.u64.wrap piece) (show (0 : Int) < 9 by decide)
    rw [← h13] at h2 h3
    rw [h14, IntKind.wrap_i64, IntKind.wrap_i64]; omega
  clear h13 h14 hpc
  have hlen2 : (fillV l (its.take 4096)).parts.length = 2 := (fill_inv l hl hc (its.take 4096) (fun x hx => hf x (List.mem_of_mem_take hx)) _ (new_fits hl hc (by omega) (by omega)) (keysOk_new _ _) ⟨rfl, by simp [srcNew]⟩).2.2.2
  have hB : w.heap.size ≤ w1.heap.size := hg1.size
  refine ⟨fun i w' => ∃ (k : Nat) (x' : SrcX) (v : SrcV), i = k ∧ k ≤ 2 ∧ x'.p = x.p ∧ SrA w' w1.heap.size x' v ∧ v.parts.length = 2 ∧ AllOn v ∧ Grew w w', fun i _ => 2 - i.toNat, ⟨0, x, _, rfl, by omega, rfl, hS, hlen2, allOn_fill _ _, hg5'⟩, ?_⟩
  rintro i w17 ⟨k, x17, v, rfl, hk, hp17, hS17, hv2, hon, hg17⟩
  refine ⟨fun hlt => ?_, fun _ => ⟨_, rfl, rfl, hg17⟩⟩
  simp only [decide_eq_true_eq] at hlt
  have hw : IntKind.i64.wrap ((k : Int) + 1) = ((k + 1 : Nat) : Int) := by rw [IntKind.wrap_i64]; omega
  rw [← hp17]
  obtain ⟨q, hq⟩ := getP_of (v := v) (p := (k : Int)) (by omega) (by omega)
  obtain ⟨hp0, hp1, hpq⟩ := getP_some hq
  have hqoff : q.2 = false := hon q (List.mem_of_getElem? hpq)
  have hql := hS17.fits.logs q (List.mem_of_getElem? hpq)
  have hlog : v.log k = q.1 := by unfold SrcV.log; rw [hq]
  refine (Log_ok hS17).use fun u w18 ⟨a20, l20, c20, hv, ho18, hg18⟩ => ?_
  subst hv
  rw [hlog] at ho18
  have hS18 := hS17.grew hg18
  have hg18' := hg17.trans hg18
  have hl20 : l20 = q.1.length := ho18.len
  subst hl20
  have hR18 := RowOff.fresh hS17 ho18
  have hread : ∀ (f : Nat), f ≤ q.1.length → v.read k f n14 = ((q.1.drop f).take n14.toNat, 0) := by
    intro f hf
    unfold SrcV.read
    rw [hq]
    simp only
    rw [if_neg (by omega), if_neg (by rw [hqoff]; simp)]
    simp
  have hsz18 : w17.heap.size ≤ w18.heap.size := hg18.size
  refine ⟨_, _, _, rfl, fun a' n' c' w' => ∃ j : Nat, n' = j ∧ j ≤ q.1.length ∧ Own w' w18.heap.size 34 Enc.rcd a' n' c' (q.1.take j) ∧ Grew w18 w', fun _ n' _ _ => q.1.length - n', ⟨0, rfl, Nat.zero_le _, Own.nil _ _ _ _, Grew.refl _⟩, ?_⟩
  rintro a23 l23 c23 w24 ⟨j, rfl, hj, ho24, hg24⟩
  have hS24 := hS18.grew hg24
  refine ⟨fun hlt2 => ?_, fun hge2 => ?_⟩
  · simp only [decide_eq_true_eq] at hlt2
    refine (SRead_ok hS24).use fun u w25 ⟨a27, l27, c27, hv, ho27, hg25⟩ => ?_
    subst hv
    rw [hread l23 hj] at ho27 ⊢
    have hl27 := ho27.len
    simp only [List.length_take, List.length_drop] at hl27
    refine ⟨_, _, _, _, rfl, fun h => (by simp at h), fun _ => ⟨fun h => ?_, fun _ => ⟨fun h => ?_, fun _ => ?_⟩⟩⟩
    · simp only [decide_eq_true_eq] at h; omega
    · simp only [decide_eq_true_eq] at h; omega
    have hgg := hg24.trans hg25
    refine append_sl elRec (ho24.grew hg25) ho27.reads.1 ho27.reads.2.1 ho27.reads.2.2.1 hgg.size (by simp [maxLen]; omega) (by simp; omega) ?_
    rintro u w30 ⟨a32, l32, c32, rfl, ho32, hu32, -⟩
    have hl32 := ho32.len
    simp only [List.length_append, List.length_take, List.length_drop] at hl32
    refine ⟨_, _, _, rfl, ⟨l32, rfl, by omega, ?_, hgg.then_own hu32 fun b hb => (ho24.blk hb).1⟩, by show q.1.length - l32 < q.1.length - l23; omega⟩
    have e : q.1.take l23 ++ (q.1.drop l23).take n14.toNat = q.1.take l32 := by
      rw [show l32 = l23 + min n14.toNat (q.1.length - l23) from by omega, List.take_add]
      congr 1
      apply List.ext_getElem?
      intro i
      rw [List.getElem?_take, List.getElem?_take]
      by_cases hi : i < min n14.toNat (q.1.length - l23)
      · rw [if_pos hi, if_pos (by omega)]
      · rw [if_neg hi]
        split
        · rw [List.getElem?_eq_none (by simp; omega)]
        · rfl
    rw [← e]; exact ho32
  · simp only [decide_eq_false_iff_not] at hge2
    have hj' : l23 = q.1.length := by omega
    rw [hj', List.take_length] at ho24
    have hR24 := hR18.grew hg24
    have hA24 : Reads w24 Enc.rcd (a23, l23, c23) q.1 := by rw [hj']; exact ho24.reads
    refine (SRead_ok hS24).use fun u w33 ⟨a35, l35, c35, hv, ho35, hg33⟩ => ?_
    subst hv
    rw [hread q.1.length (Nat.le_refl _)] at ho35 ⊢
    have hl35 : l35 = 0 := by rw [ho35.len]; simp
    subst hl35
    refine ⟨_, _, _, _, rfl, fun h => (by simp at h), fun _ => ⟨fun h => (by simp at h), fun _ => ?_⟩⟩
    have hS33 := hS24.grew hg33
    have hR33 := hR24.grew hg33
    refine (records_ok (hA24.grew hg33) hR33.reads (by omega)).use fun u w38 ⟨hv, hg38⟩ => ?_
    subst hv
    have hS38 := hS33.grew hg38
    have hR38 := hR33.grew hg38
    have hg38' := hg18'.trans (hg24.trans (hg33.trans hg38))
    refine ⟨_, rfl, fun h => (by cases h), fun _ => ?_⟩
    refine (Switch_ok (p := (k : Int)) (on := false) hS38).use fun u w42 ⟨hv, hM⟩ => ?_
    subst hv
    have hg42 := hM.grew hS38 hg38' hB
    have e1 : v.switch k false = (v.setP k (q.1, true), 0) := by unfold SrcV.switch; rw [hq]; rfl
    rw [e1] at hM ⊢
    obtain ⟨x42, hS42, hp42, hu42, hf42⟩ := hM.out
    have hR42 := hR38.moves hu42 hf42
    refine ⟨_, rfl, fun h => (by simp at h), fun _ => ?_⟩
    rw [← hp42]
    have hq1 : (v.setP k (q.1, true)).getP k = some (q.1, true) := getP_setP hq
    refine (Up_ok hS42).use fun u w46 ⟨hv, hw'⟩ => ?_
    subst hv; subst hw'
    have e2 : (v.setP k (q.1, true)).up k = false := by unfold SrcV.up; rw [hq1]; rfl
    rw [e2]
    refine ⟨_, rfl, fun h => (by cases h), fun _ => ?_⟩
    refine (SRead_ok hS42).use fun u w50 ⟨a52, l52, c52, hv, ho52, hg50⟩ => ?_
    subst hv
    have e3 : (v.setP k (q.1, true)).read k 0 n14 = ([], 63) := by
      unfold SrcV.read; rw [hq1]; simp only
      rw [if_neg (by omega), if_pos trivial]
    rw [e3] at ho52 ⊢
    have hl52 : l52 = 0 := by rw [ho52.len]; rfl
    subst hl52
    refine ⟨_, _, _, _, rfl, fun h => (by simp at h), fun _ => ⟨fun h => (by simp at h), fun _ => ?_⟩⟩
    have hS50 := hS42.grew hg50
    have hR50 := hR42.grew hg50
    refine (Log_ok hS50).use fun u w55 ⟨a57, l57, c57, hv, ho57, hg55⟩ => ?_
    subst hv
    have e4 : (v.setP k (q.1, true)).log k = q.1 := by unfold SrcV.log; rw [hq1]
    rw [e4] at ho57
    refine ⟨_, _, _, rfl, (records_ok ho57.reads (hR50.grew hg55).reads (by omega)).use fun u w59 ⟨hv, hg59⟩ => ?_⟩
    subst hv
    have hS59 := (hS50.grew hg55).grew hg59
    have hR59 := (hR50.grew hg55).grew hg59
    have hg59' := hg42.trans (hg50.trans (hg55.trans hg59))
    refine ⟨_, rfl, fun h => (by cases h), fun _ => ?_⟩
    refine (SLen_ok hS59).use fun u w63 ⟨hv, hw'⟩ => ?_
    subst hv; subst hw'
    have e5 : (v.setP k (q.1, true)).len k = q.1.length := by unfold SrcV.len; rw [hq1]
    rw [e5]
    refine ⟨_, rfl, fun h => (by simp at h), fun _ => ?_⟩
    refine (Switch_ok (p := (k : Int)) (on := true) hS59).use fun u w67 ⟨hv, hM⟩ => ?_
    subst hv
    have hg67 := hM.grew hS59 hg59' hB
    have e6 : (v.setP k (q.1, true)).switch k true = ((v.setP k (q.1, true)).setP k (q.1, false), 0) := by unfold SrcV.switch; rw [hq1]; rfl
    rw [e6] at hM ⊢
    obtain ⟨x67, hS67, hp67, hu67, hf67⟩ := hM.out
    have hR67 := hR59.moves hu67 hf67
    refine ⟨_, rfl, fun h => (by simp at h), fun _ => ?_⟩
    rw [← hp67]
    have hq2 : ((v.setP k (q.1, true)).setP k (q.1, false)).getP k = some (q.1, false) := getP_setP hq1
    refine (Up_ok hS67).use fun u w71 ⟨hv, hw'⟩ => ?_
    subst hv; subst hw'
    have e7 : ((v.setP k (q.1, true)).setP k (q.1, false)).up k = true := by unfold SrcV.up; rw [hq2]; rfl
    rw [e7]
    refine ⟨_, rfl, fun h => (by cases h), fun _ => ?_⟩
    refine (SRead_ok hS67).use fun u w75 ⟨a77, l77, c77, hv, ho77, hg75⟩ => ?_
    subst hv
    have e8 : ((v.setP k (q.1, true)).setP k (q.1, false)).read k 0 (q.1.length : Int) = (q.1, 0) := by
      unfold SrcV.read; rw [hq2]; simp only
      rw [if_neg (by omega), if_neg (by simp)]
      simp
    rw [e8] at ho77 ⊢
    refine ⟨_, _, _, _, rfl, fun h => (by simp at h), fun _ => ?_⟩
    refine (records_ok (l := q.1) ho77.reads (hR67.grew hg75).reads (by omega)).use fun u w80 ⟨hv, hg80⟩ => ?_
    subst hv
    refine ⟨_, rfl, fun h => (by cases h), fun _ => ?_⟩
    rw [hw]
    refine ⟨⟨k + 1, x67, _, rfl, by omega, ?_, (hS67.grew hg75).grew hg80, by simpa [SrcV.setP] using hv2, ?_, hg67.trans (hg75.trans hg80)⟩, by show 2 - (((k + 1 : Nat) : Int)).toNat < 2 - ((k : Int)).toNat; omega⟩
    · rw [hp67, hp42]
    · refine allOn_set (fun i y hi hy => ?_) rfl
      simp only [SrcV.setP] at hy
      rw [List.getElem?_set, if_neg (fun e => hi e.symm)] at hy
      exact hon y (List.mem_of_getElem? hy)

open Go.ChangeShapes Go.WideShapes Go.ChangeAt Go.RowKit
set_option maxRecDepth 100000 in
theorem sourceReads_lifted (os : Os) (started : os.Started) (H : Type) (enc : TypeId × Value → H) :
    ReturnsInHanded {} Try.checked os 6 .any (Rows.sourceReadsSpec.pre6 enc Try.prog Try.f6 Rows.sourceReadsRow.domain false) (Rows.sourceReadsSpec.post enc Try.prog Try.f6 false true false false) := by
  refine returnsInHanded_of_change_sized (C := Try.checked) (by kernel_rfl) started (by kernel_rfl) Try.func6
    (ChangeSpec.witness6 (enc := enc) (C := Try.checked) false ⟨#[], #[.slice none 0 0, .slice none 0 0, .int .i64 0], []⟩ 8 (by kernel_rfl) (by kernel_rfl) (by kernel_rfl) (by kernel_rfl)) ?_
  intro W base args ds gs before hval0 hW hcnd hsz0 _
  have hval : ∀ (j : Nat) t v, Try.f6.params[j]? = some t → args[j]? = some v → Value.okWide Try.prog W .any base t v := hval0
  have hW' := hW
  obtain ⟨p, q, hA0, hV, rfl, hfz, hnd⟩ := hW
  have hA : DataW.TrodAll enc Try.prog W 0 (fun _ => true) true Try.f6.params.toList args.toList ds p := hA0
  have hsz : (DataW.weightsEach Try.prog (Try.f6.params.toList ++ _) (ds ++ gs)).all (· ≤ reachBytes) = true := hsz0
  rw [show Try.f6.params = #[22, 23, 3] from by kernel_rfl] at hA hval hsz
  have hA1 := hA
  obtain ⟨v0, vs0, d0, ds0, p0, q0, hargs, rfl, rfl, h0, r0⟩ := trodAll_cons hA
  obtain ⟨v1, vs1, d1, ds1, p1, q1, rfl, rfl, rfl, h1, r1⟩ := trodAll_cons r0
  obtain ⟨v2, vs2, d2, ds2, p2, q2, rfl, rfl, rfl, h2, r2⟩ := trodAll_cons r1
  obtain ⟨rfl, rfl, rfl⟩ := trodAll_nil r2
  obtain rfl : args = #[v0, v1, v2] := by cases args; simp_all
  obtain ⟨a0, n0, c0, l0, rfl, hr0, hcl0, hn0, hb0⟩ := open_sub (P := Try.prog) (t := 22) (e := 51) (arg_sub (e := 51) (j := 0) hsz rfl rfl (by kernel_rfl) (hval 0 22 v0 rfl rfl) h0) (by kernel_rfl) op3_kinds (by kernel_rfl) (B := 24) (by kernel_rfl) (E := Enc.op3) rfl op3_of
  obtain ⟨a1, n1, c1, l1, rfl, hr1, hcl1, hn1, hb1⟩ := open_sub (P := Try.prog) (t := 23) (e := 36) (arg_sub (e := 36) (j := 1) hsz rfl rfl (by kernel_rfl) (hval 1 23 v1 rfl rfl) h1) (by kernel_rfl) item_kinds (by kernel_rfl) (B := 24) (by kernel_rfl) (E := Enc.item) rfl item_of
  obtain ⟨x2, rfl, hcl2⟩ := Go.Sx.open_int (P := Try.prog) (k := .i64) (t := 3) (by kernel_rfl) (hval 2 3 v2 rfl rfl) h2
  clear hA0 hA1 hval0 hsz0
  refine (CallsW.calls ⟨_, Try.func6, by kernel_rfl, by kernel_rfl⟩ (SourceReads_ok hr0 hcl0 hn0 hb0 hr1 hcl1 hn1 hb1 hcl2)).mono fun e W' ⟨w', hh, hk, v, he, hv, hg⟩ => ?_
  subst he; subst hv
  exact ⟨_, rfl, post_true (tb := 4) (by kernel_rfl) rfl (by kernel_rfl) (by kernel_rfl) ⟨rfl, rfl, rfl⟩ (by decide +kernel) hW' (below_of hg hh hk)⟩

theorem sourceReads_holds : Rows.SourceReadsSaid :=
  OpenClaim.holds_of_wide 6 Try.f6 rfl rfl rfl rfl rfl rfl rfl ⟨rfl, rfl, rfl, rfl, rfl⟩ rfl rfl rfl rfl rfl (by kernel_rfl) Try.func6 (by kernel_rfl)
    (of_decide_eq_true (by kernel_rfl)) (by unfold Func.isWrapper; first | (rw [if_pos (by decide +kernel)]; kernel_rfl) | (rw [if_neg (by decide +kernel)]; exact ⟨rfl, rfl⟩))
    (fun os started H enc _ => sourceReads_lifted os started H enc)
end Go.Proofs.Ytifhpmmdfjmppaa
