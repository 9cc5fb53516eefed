/- FoldTraps: what it computes, and its row. Conditions: none. -/
import Derived.Test.YtoljpkdokpinhaaProg
import Derived.Test.YtoljpkdokpinhaaFoldK
import Derived.Test.YtoljpkdokpinhaaSxX
import Derived.Test.YtoljpkdokpinhaaSxQ
import Derived.Test.YtoljpkdokpinhaaSxT
import Derived.Deep.CondSized
import Derived.Test.YtoljpkdokpinhaaRows
namespace Go.Proofs.Ytoljpkdokpinhaa
open Go.Sx
set_option maxRecDepth 100000
set_option linter.unusedVariables false
set_option linter.unusedSimpArgs false
/- reprise/repriselaw05.FoldTraps -/
def sx7 (d_0 : Option Addr) (d_0_n d_0_c : Nat) (d_1 : Int) (d_2 : Option Addr) (d_2_n d_2_c : Nat) (d_3 : Int) (R : Ending → World → Prop) (w : World) : Prop :=
  ∀ w1, Grew w w1 → CallsW Try.prog 10 [] w1 (RetR R fun u3 w2 => ∃ (b4 : Bool), u3 = .bool b4 ∧ (((!b4) = true → R (.returned (.bool false)) w2) ∧ ((!b4) = false → CallsW Try.prog 21 [.agg #[.slice d_0 d_0_n d_0_c, .int
    .i64 d_1, .slice d_2 d_2_n d_2_c, .int .i64 d_3]] w2 (RetR R fun u7 w6 => ∃ (b8 : Bool), u7 = .bool b8 ∧ (((!b8) = true → R (.returned (.bool true)) w6) ∧ ((!b8) = false → ∃ (I10 : Option Addr → Nat → Nat → Int → Int
    → World → Prop) (m10 : Option Addr → Nat → Nat → Int → Int → World → Nat), I10 none 0 0 0 0 w6 ∧ ∀ (a11 : Option Addr) (l11 c11 : Nat) (n12 : Int) (n13 : Int) (w14 : World), I10 a11 l11 c11 n12 n13 w14 → (((decide
    (n13 < ((d_2_n : Nat) : Int))) = true → ∀ w15, Grew w14 w15 → withSome d_2 (fun d16 => (0 ≤ n13 ∧ n13 < (d_2_n : Nat)) ∧ ∃ (n17 : Int) (x18 : Nat), CellsAt w15 (Addr.add d16 (n13.toNat * 2)) 0 [.int .u64 n17, .float
    .f64 x18] ∧ ((CallsW Try.prog 25 [.slice d_0 d_0_n d_0_c, .agg #[.int .u64 n17, .float .f64 x18]] w15 (RetR R fun u20 w19 => ∃ (n21 : Int) (x22 : Nat) (n23 : Int), u20 = .tuple #[.agg #[.int .u64 n21, .float .f64
    x22], .int .i64 n23] ∧ SameB w15 w19 [(Addr.add d16 (n13.toNat * 2))] ∧ ∀ w25, Grew w19 w25 → SameB w19 w25 [(Addr.add d16 (n13.toNat * 2))] ∧ (((n23 == 1) = true → withSome d_2 (fun d26 => (0 ≤ n13 ∧ n13 < (d_2_n :
    Nat)) ∧ ∃ (n27 : Int) (x28 : Nat), CellsAt w25 (Addr.add d26 (n13.toNat * 2)) 0 [.int .u64 n27, .float .f64 x28] ∧ ∀ (b29 : Nat) (w30 : World), Alloc w25 w30 b29 (.cells #[.int .u64 n27, .float .f64 x28] 52) → SemW
    Try.prog (Builtin.append_ #[41, 41] 41 #[.slice a11 l11 c11, .slice (some ⟨b29, 0, none⟩) 1 1]) (fun u32 w31 => ∃ (a33 : Option Addr) (l33 c33 : Nat), u32 = .slice a33 l33 c33 ∧ (((n23 == 3) = true → (I10 a33 l33 c33
    (IntKind.i64.wrap (n12 + 1)) (IntKind.i64.wrap (n13 + 1)) w31 ∧ m10 a33 l33 c33 (IntKind.i64.wrap (n12 + 1)) (IntKind.i64.wrap (n13 + 1)) w31 < m10 a11 l11 c11 n12 n13 w14)) ∧ ((n23 == 3) = false → (I10 a33 l33 c33
    n12 (IntKind.i64.wrap (n13 + 1)) w31 ∧ m10 a33 l33 c33 n12 (IntKind.i64.wrap (n13 + 1)) w31 < m10 a11 l11 c11 n12 n13 w14)))) w30)) ∧ ((n23 == 1) = false → (((n23 == 3) = true → (I10 a11 l11 c11 (IntKind.i64.wrap (n12
    + 1)) (IntKind.i64.wrap (n13 + 1)) w25 ∧ m10 a11 l11 c11 (IntKind.i64.wrap (n12 + 1)) (IntKind.i64.wrap (n13 + 1)) w25 < m10 a11 l11 c11 n12 n13 w14)) ∧ ((n23 == 3) = false → (I10 a11 l11 c11 n12 (IntKind.i64.wrap
    (n13 + 1)) w25 ∧ m10 a11 l11 c11 n12 (IntKind.i64.wrap (n13 + 1)) w25 < m10 a11 l11 c11 n12 n13 w14))))))) ∧ (∀ w34, Grew w15 w34 → SameB w15 w34 [(Addr.add d16 (n13.toNat * 2))] ∧ CallsW Try.prog 25 [.slice d_0 d_0_n
    d_0_c, .agg #[.int .u64 n17, .float .f64 x18]] w34 (RetR R fun u36 w35 => ∃ (n37 : Int) (x38 : Nat) (n39 : Int), u36 = .tuple #[.agg #[.int .u64 n37, .float .f64 x38], .int .i64 n39] ∧ SameB w34 w35 [(Addr.add d16
    (n13.toNat * 2))] ∧ (((n39 == 1) = true → withSome d_2 (fun d41 => (0 ≤ n13 ∧ n13 < (d_2_n : Nat)) ∧ ∃ (n42 : Int) (x43 : Nat), CellsAt w35 (Addr.add d41 (n13.toNat * 2)) 0 [.int .u64 n42, .float .f64 x43] ∧ ∀ (b44 :
    Nat) (w45 : World), Alloc w35 w45 b44 (.cells #[.int .u64 n42, .float .f64 x43] 52) → SemW Try.prog (Builtin.append_ #[41, 41] 41 #[.slice a11 l11 c11, .slice (some ⟨b44, 0, none⟩) 1 1]) (fun u47 w46 => ∃ (a48 :
    Option Addr) (l48 c48 : Nat), u47 = .slice a48 l48 c48 ∧ (((n39 == 3) = true → (I10 a48 l48 c48 (IntKind.i64.wrap (n12 + 1)) (IntKind.i64.wrap (n13 + 1)) w46 ∧ m10 a48 l48 c48 (IntKind.i64.wrap (n12 + 1))
    (IntKind.i64.wrap (n13 + 1)) w46 < m10 a11 l11 c11 n12 n13 w14)) ∧ ((n39 == 3) = false → (I10 a48 l48 c48 n12 (IntKind.i64.wrap (n13 + 1)) w46 ∧ m10 a48 l48 c48 n12 (IntKind.i64.wrap (n13 + 1)) w46 < m10 a11 l11 c11
    n12 n13 w14)))) w45)) ∧ ((n39 == 1) = false → (((n39 == 3) = true → (I10 a11 l11 c11 (IntKind.i64.wrap (n12 + 1)) (IntKind.i64.wrap (n13 + 1)) w35 ∧ m10 a11 l11 c11 (IntKind.i64.wrap (n12 + 1)) (IntKind.i64.wrap (n13
    + 1)) w35 < m10 a11 l11 c11 n12 n13 w14)) ∧ ((n39 == 3) = false → (I10 a11 l11 c11 n12 (IntKind.i64.wrap (n13 + 1)) w35 ∧ m10 a11 l11 c11 n12 (IntKind.i64.wrap (n13 + 1)) w35 < m10 a11 l11 c11 n12 n13 w14)))))))))) ∧
    ((decide (n13 < ((d_2_n : Nat) : Int))) = false → CallsW Try.prog 24 [.agg #[.slice d_0 d_0_n d_0_c, .int .i64 d_1, .slice d_2 d_2_n d_2_c, .int .i64 d_3], .slice d_2 d_2_n d_2_c] w14 (RetR R fun u50 w49 => ∃ (a51 :
    Option Addr) (l51 c51 : Nat) (n52 : Int) (b53 : Bool), u50 = .tuple #[.slice a51 l51 c51, .int .i64 n52, .bool b53] ∧ CallsW Try.prog 24 [.agg #[.slice d_0 d_0_n d_0_c, .int .i64 d_1, .slice d_2 d_2_n d_2_c, .int .i64
    d_3], .slice a11 l11 c11] w49 (RetR R fun u56 w55 => ∃ (a57 : Option Addr) (l57 c57 : Nat) (n58 : Int) (b59 : Bool), u56 = .tuple #[.slice a57 l57 c57, .int .i64 n58, .bool b59] ∧ (((!b53) = true → R (.returned (.bool
    false)) w55) ∧ ((!b53) = false → (((!b59) = true → R (.returned (.bool false)) w55) ∧ ((!b59) = false → (((n52 != n12) = true → R (.returned (.bool false)) w55) ∧ ((n52 != n12) = false → (((n58 != 0) = true → R
    (.returned (.bool false)) w55) ∧ ((n58 != 0) = false → CallsW Try.prog 15 [.slice a51 l51 c51, .slice a57 l57 c57] w55 (RetR R fun u62 w61 => ∃ (b63 : Bool), u62 = .bool b63 ∧ (((!b63) = true → R (.returned (.bool
    false)) w61) ∧ ((!b63) = false → CallsW Try.prog 22 [.slice d_0 d_0_n d_0_c, .int .i64 1, .slice d_2 d_2_n d_2_c] w61 (RetR R fun u66 w65 => ∃ (a67 : Option Addr) (l67 c67 : Nat) (n68 : Int) (n69 : Int), u66 = .tuple
    #[.slice a67 l67 c67, .int .i64 n68, .int .i64 n69] ∧ ∃ (I71 : Int → Int → World → Prop) (m71 : Int → Int → World → Nat), I71 0 0 w65 ∧ ∀ (n72 : Int) (n73 : Int) (w74 : World), I71 n72 n73 w74 → (((decide (n73 < ((l67
    : Nat) : Int))) = true → withSome a67 (fun d75 => (0 ≤ n73 ∧ n73 < (l67 : Nat)) ∧ ∃ (n76 : Int), w74.cell? (Addr.add (Addr.add (Addr.add d75 (n73.toNat * 3)) 1) 1) = some (.int .u64 n76) ∧ ∀ n77 : Int, n77 =
    IntKind.u64.wrap (n72 + n76) → (I71 n77 (IntKind.i64.wrap (n73 + 1)) w74 ∧ m71 n77 (IntKind.i64.wrap (n73 + 1)) w74 < m71 n72 n73 w74))) ∧ ((decide (n73 < ((l67 : Nat) : Int))) = false → (((n69 == 0) = true → ∀ n78 :
    Int, n78 = IntKind.u64.wrap ((l11 : Nat) : Int) → (((n72 == n78) = true → R (.returned (.bool (((l67 : Nat) : Int) == ((l51 : Nat) : Int)))) w74) ∧ ((n72 == n78) = false → R (.returned (.bool false)) w74))) ∧ ((n69 ==
    0) = false → R (.returned (.bool false)) w74))))))))))))))))))))))))))
theorem sx7.ok {d_0 : Option Addr} {d_0_n d_0_c : Nat} {d_1 : Int} {d_2 : Option Addr} {d_2_n d_2_c : Nat} {d_3 : Int} {R : Ending → World → Prop} {w : World} (h : sx7 d_0 d_0_n d_0_c d_1 d_2 d_2_n d_2_c d_3 R w) : CallsW Try.prog 7 [.agg #[.slice d_0 d_0_n d_0_c, .int .i64 d_1, .slice d_2 d_2_n d_2_c, .int .i64 d_3]] w R :=
  callsW_of mix Try.func7 (by kernel_rfl) (by kernel_rfl) (Eq.mpr (by kernel_rfl : denFn Try.prog { locals := [1, 6], sem := [51], named := [114, 121], draws := [(10, { order := (.cons 0 (.cons 1 (.cons 2 (.cons 3 (.cons 4 (.cons 5 (.cons 6 (.alt (.cons 7 (.cons 8 (.cons 9 (.cons 10 (.cons 11 (.cons 12 (.cons 13 .nil))))))) (.cons 11 (.cons 7 (.cons 8 (.cons 9 (.cons 10 (.cons 12 (.cons 13 .nil))))))))))))))), bars := [12] })], loops := [(8, { slots := [(3, .slice), (4, .int .i64), (5, .int .i64)], cells := [] }), (22, { slots := [(14, .int .u64), (18, .int .i64)], cells := [] })] } Try.f7 [.agg #[.slice d_0 d_0_n d_0_c, .int .i64 d_1, .slice d_2 d_2_n d_2_c, .int .i64 d_3]] R w = sx7 d_0 d_0_n d_0_c d_1 d_2 d_2_n d_2_c d_3 R w) h)


theorem elRecF : ElemOk Try.prog 41 52 Enc.rcd.sz 16 := ElemOk.mk' (z := .agg #[.int .u64 0, .float .f64 0]) (by kernel_rfl) (by kernel_rfl) (by kernel_rfl)
theorem trapN_snoc (l : List OpV) (rs : List RecV) (r : RecV) : trapN l (rs ++ [r]) = if (runB l r).2 = 3 then trapN l rs + 1 else trapN l rs := by
  unfold trapN
  rw [List.filter_append]
  by_cases h : (runB l r).2 = 3
  · rw [if_pos h, List.filter_cons_of_pos (by simpa using h)]; simp
  · rw [if_neg h, List.filter_cons_of_neg (by simpa using h)]; simp
theorem keptR_len (l : List OpV) (rs : List RecV) : (keptR l rs).length ≤ rs.length := List.length_filter_le _ _
structure TrapSt (w : World) (l : List OpV) (rs : List RecV) (a : Option Addr) (n c : Nat) (t i : Int) (q : Nat) (w' : World) : Prop where
  i : i = q
  le : q ≤ rs.length
  trap : t = (trapN l (rs.take q) : Int)
  own : Own w' w.heap.size 52 Enc.rcd a n c (keptR l (rs.take q))
  grew : Grew w w'

set_option maxHeartbeats 1000000 in
theorem FoldTraps_ok {j : JobS} {w : World} (hj : JobOk 1048576 w j) :
    CallsW Try.prog 7 [jobv j.o.1 j.o.2.1 j.o.2.2 j.kind j.r.1 j.r.2.1 j.r.2.2 j.at_] w (Rets fun v w' => v = .bool true ∧ Grew w w') := by
  obtain ⟨⟨oa, on, oc⟩, kind, ⟨ra, rn, rc⟩, at_⟩ := j
  obtain ⟨l, rs, hJ, hl, hrl⟩ := hj
  simp only at hJ ⊢
  refine sx7.ok ?_
  unfold sx7
  have hn : rn = rs.length := hJ.recs.2.1
  subst hn
  intro w1 hg1
  refine awakeF_ok.use fun v w2 ⟨hv, hg2⟩ => ?_
  subst hv
  have hg2 := hg1.trans hg2
  refine ⟨_, rfl, fun h => (by cases h), fun _ => (right_ok (hJ.grew hg2).ops).use fun v w6 ⟨hv, hg6⟩ => ?_⟩
  subst hv
  have hg6 := hg2.trans hg6
  cases hc : checkB l
  · exact ⟨_, rfl, fun _ => ⟨_, rfl, rfl, hg6⟩, fun h => (by simp at h)⟩
  cases hk : knownB kind
  · exact ⟨_, rfl, fun _ => ⟨_, rfl, rfl, hg6⟩, fun h => (by simp at h)⟩
  refine ⟨_, rfl, fun h => (by simp at h), fun _ => ?_⟩
  refine ⟨fun a n c t i w' => ∃ q, TrapSt w l rs a n c t i q w', fun _ _ _ _ i _ => rs.length - i.toNat, ⟨0, rfl, Nat.zero_le _, rfl, Own.nil _ _ _ _, hg6⟩, ?_⟩
  rintro a11 l11 c11 t i w14 ⟨q, st⟩
  obtain rfl := st.i
  have hq := st.le
  refine ⟨fun hlt w15 hg15 => ?_, fun hge => ?_⟩
  · simp only [decide_eq_true_eq] at hlt
    have hw : IntKind.i64.wrap ((q : Int) + 1) = ((q + 1 : Nat) : Int) := by rw [IntKind.wrap_i64]; omega
    have dec : rs.length - (IntKind.i64.wrap ((q : Int) + 1)).toNat < rs.length - ((q : Int)).toNat := by rw [hw]; omega
    have hg0 := hg15
    have hgw := st.grew.trans hg15
    obtain ⟨d, r, hd, hrj, hcc⟩ := (hJ.recs.grew hgw).at0 (k := q) (by omega)
    have hcell : CellsAt w15 (Addr.add d (((q : Nat) : Int).toNat * 2)) 0 [.int .u64 r.key, .float .f64 r.val] := hcc
    have hblk : (Addr.add d (((q : Nat) : Int).toNat * 2)).block < w15.heap.size := cell_blockF hcell.1
    have hrf := hJ.fr r (List.mem_of_getElem? hrj)
    have hT : rs.take (q + 1) = rs.take q ++ [r] := take_snoc hrj
    rw [hd, withSome]
    refine ⟨⟨by omega, by omega⟩, _, _, hcell, ?_, ?_⟩
    · refine (Run_ok (r := r) (hJ.ops.grew hgw) hJ.fo hrf).use fun u w19 ⟨hv, hg19⟩ => ?_
      subst hv
      refine ⟨_, _, _, rfl, ⟨hg19.block _ hblk, trivial⟩, fun w25 hg25 => ⟨⟨hg25.block _ (Nat.lt_of_lt_of_le hblk hg19.size), trivial⟩, ?_⟩⟩
      have hgi := hg19.trans hg25
      have hg15 := hgw
      -- from the world w25 where Run has answered
      refine ⟨fun h1 => ?_, fun h1 => ?_⟩
      · simp only [beq_iff_eq] at h1
        rw [withSome]
        have hcc := hcell.grew hgi
        refine ⟨⟨by omega, by omega⟩, _, _, hcc, fun b29 w30 hal => ?_⟩
        have hown := st.own.grew (hg0.trans hgi)
        have hkl := keptR_len l (rs.take q)
        have htl : (rs.take q).length = q := by rw [List.length_take]; omega
        refine append_new (l2 := [r]) elRecF hown hal rfl rfl (hg15.trans hgi).size (by simp only [maxLen, List.length_singleton]; omega) (by simp only [List.length_singleton]; omega) ?_
        rintro v31 w31 ⟨a33, l33, c33, rfl, ho33, hu33, hb33⟩
        have hg31 : Grew w w31 := (hg15.trans hgi).then_own hu33 fun b hb => (hown.blk hb).1
        have hkk : keptR l (rs.take q) ++ [r] = keptR l (rs.take (q + 1)) := by rw [hT, keptR_snoc, if_pos h1]
        rw [hkk] at ho33
        refine ⟨_, _, _, rfl, fun h3 => (by rw [beq_iff_eq] at h3; omega), fun _ => ⟨⟨q + 1, hw, by omega, by rw [hT, trapN_snoc, if_neg (by omega), st.trap], ho33, hg31⟩, dec⟩⟩
      · simp only [beq_eq_false_iff_ne, ne_eq] at h1
        have hkk : keptR l (rs.take q) = keptR l (rs.take (q + 1)) := by rw [hT, keptR_snoc, if_neg h1]
        have hown : Own w25 w.heap.size 52 Enc.rcd a11 l11 c11 (keptR l (rs.take (q + 1))) := by rw [← hkk]; exact st.own.grew (hg0.trans hgi)
        refine ⟨fun h3 => ?_, fun h3 => ?_⟩
        · simp only [beq_iff_eq] at h3
          refine ⟨⟨q + 1, hw, by omega, ?_, hown, hg15.trans hgi⟩, dec⟩
          rw [hT, trapN_snoc, if_pos h3, st.trap, IntKind.wrap_i64]
          have := trapN_len l (rs.take q)
          have : (rs.take q).length ≤ q := by rw [List.length_take]; omega
          omega
        · simp only [beq_eq_false_iff_ne, ne_eq] at h3
          exact ⟨⟨q + 1, hw, by omega, by rw [hT, trapN_snoc, if_neg h3, st.trap], hown, hg15.trans hgi⟩, dec⟩
    · intro w34 hg34
      refine ⟨⟨hg34.block _ hblk, trivial⟩, ?_⟩
      refine (Run_ok (r := r) ((hJ.ops.grew hgw).grew hg34) hJ.fo hrf).use fun u w35 ⟨hv, hg35⟩ => ?_
      subst hv
      refine ⟨_, _, _, rfl, ⟨hg35.block _ (Nat.lt_of_lt_of_le hblk hg34.size), trivial⟩, ?_⟩
      have hgi := hg34.trans hg35
      have hg15 := hgw
      -- from the world w35 where Run has answered
      refine ⟨fun h1 => ?_, fun h1 => ?_⟩
      · simp only [beq_iff_eq] at h1
        rw [withSome]
        have hcc := hcell.grew hgi
        refine ⟨⟨by omega, by omega⟩, _, _, hcc, fun b29 w30 hal => ?_⟩
        have hown := st.own.grew (hg0.trans hgi)
        have hkl := keptR_len l (rs.take q)
        have htl : (rs.take q).length = q := by rw [List.length_take]; omega
        refine append_new (l2 := [r]) elRecF hown hal rfl rfl (hg15.trans hgi).size (by simp only [maxLen, List.length_singleton]; omega) (by simp only [List.length_singleton]; omega) ?_
        rintro v31 w31 ⟨a33, l33, c33, rfl, ho33, hu33, hb33⟩
        have hg31 : Grew w w31 := (hg15.trans hgi).then_own hu33 fun b hb => (hown.blk hb).1
        have hkk : keptR l (rs.take q) ++ [r] = keptR l (rs.take (q + 1)) := by rw [hT, keptR_snoc, if_pos h1]
        rw [hkk] at ho33
        refine ⟨_, _, _, rfl, fun h3 => (by rw [beq_iff_eq] at h3; omega), fun _ => ⟨⟨q + 1, hw, by omega, by rw [hT, trapN_snoc, if_neg (by omega), st.trap], ho33, hg31⟩, dec⟩⟩
      · simp only [beq_eq_false_iff_ne, ne_eq] at h1
        have hkk : keptR l (rs.take q) = keptR l (rs.take (q + 1)) := by rw [hT, keptR_snoc, if_neg h1]
        have hown : Own w35 w.heap.size 52 Enc.rcd a11 l11 c11 (keptR l (rs.take (q + 1))) := by rw [← hkk]; exact st.own.grew (hg0.trans hgi)
        refine ⟨fun h3 => ?_, fun h3 => ?_⟩
        · simp only [beq_iff_eq] at h3
          refine ⟨⟨q + 1, hw, by omega, ?_, hown, hg15.trans hgi⟩, dec⟩
          rw [hT, trapN_snoc, if_pos h3, st.trap, IntKind.wrap_i64]
          have := trapN_len l (rs.take q)
          have : (rs.take q).length ≤ q := by rw [List.length_take]; omega
          omega
        · simp only [beq_eq_false_iff_ne, ne_eq] at h3
          exact ⟨⟨q + 1, hw, by omega, by rw [hT, trapN_snoc, if_neg h3, st.trap], hown, hg15.trans hgi⟩, dec⟩
  simp only [decide_eq_false_iff_not] at hge
  have hqn : q = rs.length := by omega
  subst hqn
  obtain ⟨-, -, htr, hown, hg14⟩ := st
  rw [List.take_length] at htr hown
  subst htr
  have fK : ∀ x ∈ keptR l rs, x.Fits := fun x hx => hJ.fr x ((List.mem_filter.1 hx).1)
  have lK : (keptR l rs).length ≤ 1048576 := Nat.le_trans (keptR_len l rs) hrl
  refine (table_okK (oa := oa) (on := on) (oc := oc) (ra := ra) (rn := rs.length) (rc := rc) (at_ := at_) hc hk (hJ.grew hg14).ops hJ.fo (hJ.grew hg14).recs hJ.fr hrl).use fun u w49 ⟨a51, l51, c51, hv, ho51, hg49⟩ => ?_
  subst hv
  have hg49' := hg14.trans hg49
  refine ⟨_, _, _, _, _, rfl, (table_okK (oa := oa) (on := on) (oc := oc) (ra := ra) (rn := rs.length) (rc := rc) (at_ := at_) hc hk (hJ.grew hg49').ops hJ.fo (hown.grew hg49).reads fK lK).use fun u w55 ⟨a57, l57, c57, hv, ho57, hg55⟩ => ?_⟩
  subst hv
  have hg55' := hg49'.trans hg55
  have tE : tableT (batchAll l kind (keptR l rs)).1 = tableT (batchAll l kind rs).1 := table_eq hk hJ.fo fK hJ.fr (by rw [keptL_kept])
  rw [tE] at ho57
  rw [trapN_kept]
  have tR := tabl_len (l := l) (kind := kind) (rs := rs)
  refine ⟨_, _, _, _, _, rfl, fun h => (by cases h), fun _ => ⟨fun h => (by cases h), fun _ => ⟨fun h => (by simp at h), fun _ => ⟨fun h => (by simp at h), fun _ => ?_⟩⟩⟩⟩
  refine (same_ok (ho51.grew hg55).reads ho57.reads (by omega)).use fun u w61 ⟨hv, hg61⟩ => ?_
  subst hv
  have hg61' := hg55'.trans hg61
  refine ⟨_, rfl, fun h => (by simp at h), fun _ => (Batch_ok (kind := 1) (hJ.grew hg61').ops hJ.fo (hJ.grew hg61').recs hJ.fr (by omega)).use fun u w65 ⟨a67, l67, c67, hv, ho67, hg65⟩ => ?_⟩
  have k1 : knownB 1 = true := by decide
  simp only [hc, k1, and_self, if_true] at hv ho67
  subst hv
  have hg65' := hg61'.trans hg65
  have t1 := tabl_len (l := l) (kind := 1) (rs := rs)
  have hl67 := ho67.len
  generalize htab : tableT (batchAll l 1 rs).1 = T at ho67 t1 hl67
  have hT1 : IntKind.u64.wrap (bitsT T) = IntKind.u64.wrap ((keptR l rs).length : Int) := by rw [← htab]; exact count_all hJ.fo hJ.fr
  have hTl : T.length = (tableT (batchAll l kind rs).1).length := by rw [← htab]; exact table_len_any l 1 kind rs
  subst hl67
  refine ⟨_, _, _, _, _, rfl, fun s i w' => ∃ q : Nat, i = q ∧ q ≤ T.length ∧ s = IntKind.u64.wrap (bitsT (T.take q)) ∧ Grew w65 w', fun _ i _ => T.length - i.toNat, ⟨0, rfl, Nat.zero_le _, rfl, Grew.refl _⟩, ?_⟩
  rintro s i w74 ⟨q, rfl, hq, rfl, hg74⟩
  refine ⟨fun hlt => ?_, fun hge => ⟨fun _ n78 h78 => ⟨fun _ => ?_, fun hne => ?_⟩, fun h => (by simp at h)⟩⟩
  · simp only [decide_eq_true_eq] at hlt
    obtain ⟨d, p, hd, hp, hpc⟩ := (ho67.grew hg74).reads.at0 (k := q) (by omega)
    have hcell : w74.cell? (Addr.add (Addr.add (Addr.add d (((q : Nat) : Int).toNat * 3)) 1) 1) = some (.int .u64 p.bits) := by
      have := cellsAt_get hpc 2 _ rfl
      simpa [Enc.pair, Addr.add_add] using this
    rw [hd, withSome]
    have hw : IntKind.i64.wrap ((q : Int) + 1) = ((q + 1 : Nat) : Int) := by rw [IntKind.wrap_i64]; omega
    refine ⟨⟨by omega, by omega⟩, _, hcell, fun n77 h77 => ⟨⟨q + 1, hw, by omega, ?_, hg74⟩, by show T.length - (IntKind.i64.wrap ((q : Int) + 1)).toNat < T.length - ((q : Int)).toNat; rw [hw]; omega⟩⟩
    have hb : bitsT (T.take (q + 1)) = bitsT (T.take q) + p.bits := by
      rw [take_snoc hp]; unfold bitsT; rw [List.map_append, List.sum_append]; simp
    rw [h77, hb, IntKind.wrap_u64, IntKind.wrap_u64, IntKind.wrap_u64]; omega
  · simp only [decide_eq_false_iff_not] at hge
    exact ⟨_, rfl, by rw [hTl, ho51.len]; simp, hg65'.trans hg74⟩
  · exfalso
    simp only [decide_eq_false_iff_not] at hge
    rw [List.take_of_length_le (by omega), hT1] at hne
    have hkl := hown.len
    rw [h78, hkl] at hne
    simp at hne

section
variable {H : Type}
theorem upto_pos (d : DataW H) : 1 ≤ Rows.uptoBulk d := by
  cases d with
  | lit l => cases l <;> simp [Rows.uptoBulk]
  | _ => simp [Rows.uptoBulk]
theorem upto_all_len : ∀ ds : List (DataW H), ds.length ≤ Rows.uptoBulkAll ds
  | [] => by simp [Rows.uptoBulkAll]
  | d :: r => by
    have h1 := upto_pos d; have h2 := upto_all_len r
    simp only [Rows.uptoBulkAll, List.length_cons]; omega
theorem upto_mem : ∀ {ds : List (DataW H)} {j : Nat} {d : DataW H}, ds[j]? = some d → Rows.uptoBulk d ≤ Rows.uptoBulkAll ds
  | [], j, d, h => by simp at h
  | x :: r, 0, d, h => by simp at h; subst h; simp only [Rows.uptoBulkAll]; omega
  | x :: r, j + 1, d, h => by
    have := upto_mem (ds := r) (j := j) (d := d) (by simpa using h)
    simp only [Rows.uptoBulkAll]; omega
theorem upto_len {ds : List (DataW H)} {B : Nat} (h : Rows.uptoBulkAll ds ≤ B) {j : Nat} {d : DataW H} {n : Nat} (hd : ds[j]? = some d) (hs : (d = .nil ∧ n = 0) ∨ ∃ es sp, d = .slice es sp ∧ es.length = n) : n ≤ B := by
  have h1 := upto_mem hd
  rcases hs with ⟨-, rfl⟩ | ⟨es, sp, rfl, rfl⟩
  · omega
  · have h2 := upto_all_len es
    simp only [Rows.uptoBulk] at h1; omega
end
section
variable {H : Type}
theorem upto_in {ds : List (DataW H)} {d : DataW H} (h : d ∈ ds) : Rows.uptoBulk d ≤ Rows.uptoBulkAll ds := by
  obtain ⟨j, hj⟩ := List.getElem?_of_mem h
  exact upto_mem hj
def uptoBd (H : Type) : Up.Bd H := ⟨Rows.uptoBulk, 1048576, fun es sp => by have := upto_all_len es; simp only [Rows.uptoBulk]; omega, fun es sp d hd => by have := upto_in hd; simp only [Rows.uptoBulk]; omega, fun ds d hd => by have := upto_in hd; simp only [Rows.uptoBulk]; omega⟩
end
open Go.ChangeShapes Go.WideShapes Go.ChangeAt Go.RowKit
set_option maxRecDepth 100000 in
theorem foldTraps_lifted (os : Os) (started : os.Started) (H : Type) (enc : TypeId × Value → H) (F : Stop.Interp) :
    ReturnsInHanded {} Try.checked os 7 .any ((Rows.OpenSpec.upto Rows.foldTrapsSpec).pre6 enc Try.prog Try.f7 Rows.foldTrapsUptoRow.domain false) (((Rows.OpenSpec.upto Rows.foldTrapsSpec).at F).post enc Try.prog Try.f7 false true false false) := by
  refine returnsInHanded_of_cond_sized (s := Rows.OpenSpec.upto Rows.foldTrapsSpec) (k := Rows.uptoSmall) (by rfl) (C := Try.checked) (by kernel_rfl) started (by kernel_rfl) Try.func7
    (OpenSpec.witness (s := Rows.OpenSpec.upto Rows.foldTrapsSpec) (k := Rows.uptoSmall) (by rfl) (enc := enc) (C := Try.checked) (x := ([.agg [.nil, .lit (.int .i64 0), .nil, .lit (.int .i64 0)]], [], [])) false ⟨#[], #[.agg #[.slice none 0 0, .int .i64 0, .slice none 0 0, .int .i64 0]], []⟩ 8 (by kernel_rfl) (by kernel_rfl) (by kernel_rfl) (by kernel_rfl) (by kernel_rfl) (by kernel_rfl)) ?_
  intro W base args ds gs before hval0 hW hcnd hsm0 hsz0 _
  have hval : ∀ (j : Nat) t v, Try.f7.params[j]? = some t → args[j]? = some v → Value.okWide Try.prog W .any base t v := hval0
  have hW' := hW
  obtain ⟨p, q, hA0, hV, rfl, hfz, hnd⟩ := hW
  have hA : DataW.TrodAll enc Try.prog W 0 (fun _ => true) true Try.f7.params.toList args.toList ds p := hA0
  have hsz : (DataW.weightsEach Try.prog (Try.f7.params.toList ++ _) (ds ++ gs)).all (· ≤ reachBytes) = true := hsz0
  rw [show Try.f7.params = #[43] from by kernel_rfl] at hA hval hsz
  have hA1 := hA
  obtain ⟨v0, vs0, d0, ds0, p0, q0, hargs, rfl, rfl, h0, r0⟩ := trodAll_cons hA
  obtain ⟨rfl, rfl, rfl⟩ := trodAll_nil r0
  obtain rfl : args = #[v0] := by cases args; simp_all
  have hsm : Rows.uptoBulkAll _ ≤ 1048576 := of_decide_eq_true hsm0
  obtain ⟨j0, rfl, hj0⟩ := openJob (Q := uptoBd H) (fun d hd => Nat.le_trans (upto_in hd) hsm) (j := 0) hsz rfl rfl (hval 0 43 v0 rfl rfl) h0
  clear hA0 hA1 hval0 hsz0
  refine (CallsW.calls ⟨_, Try.func7, by kernel_rfl, by kernel_rfl⟩ (FoldTraps_ok hj0)).mono fun e W' ⟨w', hh, hk, v, he, hv, hg⟩ => ?_
  subst he; subst hv
  exact ⟨_, rfl, post_true (tb := 4) (by kernel_rfl) rfl (by kernel_rfl) (by kernel_rfl) ⟨rfl, rfl, rfl⟩ (by decide +kernel) hW' (below_of hg hh hk)⟩

theorem foldTraps_holds : Rows.FoldTrapsUptoSaid :=
  OpenClaim.holds_of_cond 7 Try.f7 rfl rfl rfl rfl rfl rfl rfl ⟨rfl, rfl, rfl, rfl, rfl⟩ rfl rfl rfl rfl rfl (by kernel_rfl) Try.func7 (by kernel_rfl)
    (of_decide_eq_true (by kernel_rfl)) (by unfold Func.isWrapper; first | (rw [if_pos (by decide +kernel)]; kernel_rfl) | (rw [if_neg (by decide +kernel)]; exact ⟨rfl, rfl⟩))
    (fun os started H enc _ F => foldTraps_lifted os started H enc F)
end Go.Proofs.Ytoljpkdokpinhaa
