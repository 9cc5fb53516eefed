/- FoldOne: what it computes, and its row. Conditions: none. -/
import Derived.Test.YtoljpkdokpinhaaProg
import Derived.Test.YtoljpkdokpinhaaFoldK
import Derived.Test.YtoljpkdokpinhaaSxX
import Derived.Test.YtoljpkdokpinhaaSxQ
import Derived.Test.YtoljpkdokpinhaaSxT
import Derived.Deep.CondSized
import Derived.Test.YtoljpkdokpinhaaRows
namespace Go.Proofs.Ytoljpkdokpinhaa
open Go.Sx
set_option maxRecDepth 100000
set_option linter.unusedVariables false
set_option linter.unusedSimpArgs false
/- reprise/repriselaw05.FoldOne -/
def sx8 (d_0 : Option Addr) (d_0_n d_0_c : Nat) (d_1 : Int) (d_2 : Option Addr) (d_2_n d_2_c : Nat) (d_3 : Int) (R : Ending → World → Prop) (w : World) : Prop :=
  ∀ w1, Grew w w1 → CallsW Try.prog 10 [] w1 (RetR R fun u3 w2 => ∃ (b4 : Bool), u3 = .bool b4 ∧ (((!b4) = true → R (.returned (.bool false)) w2) ∧ ((!b4) = false → CallsW Try.prog 21 [.agg #[.slice d_0 d_0_n d_0_c, .int
    .i64 d_1, .slice d_2 d_2_n d_2_c, .int .i64 d_3]] w2 (RetR R fun u7 w6 => ∃ (b8 : Bool), u7 = .bool b8 ∧ (((!b8) = true → R (.returned (.bool true)) w6) ∧ ((!b8) = false → CallsW Try.prog 24 [.agg #[.slice d_0 d_0_n
    d_0_c, .int .i64 d_1, .slice d_2 d_2_n d_2_c, .int .i64 d_3], .slice d_2 d_2_n d_2_c] w6 (RetR R fun u11 w10 => ∃ (a12 : Option Addr) (l12 c12 : Nat) (n13 : Int) (b14 : Bool), u11 = .tuple #[.slice a12 l12 c12, .int
    .i64 n13, .bool b14] ∧ (((!b14) = true → R (.returned (.bool false)) w10) ∧ ((!b14) = false → ∃ (I16 : Int → World → Prop) (m16 : Int → World → Nat), I16 0 w10 ∧ ∀ (n17 : Int) (w18 : World), I16 n17 w18 → (((decide
    (n17 < ((l12 : Nat) : Int))) = true → (((decide (n17 < 8)) = true → ∀ w19, Grew w18 w19 → ∃ (I20 : Int → Bool → Int → World → Prop) (m20 : Int → Bool → Int → World → Nat), I20 0 false 0 w19 ∧ ∀ (n21 : Int) (b22 :
    Bool) (n23 : Int) (w24 : World), I20 n21 b22 n23 w24 → (((decide (n21 < ((d_2_n : Nat) : Int))) = true → ∀ w25, Grew w24 w25 → withSome d_2 (fun d26 => (0 ≤ n21 ∧ n21 < (d_2_n : Nat)) ∧ ∃ (n27 : Int) (x28 : Nat),
    CellsAt w25 (Addr.add d26 (n21.toNat * 2)) 0 [.int .u64 n27, .float .f64 x28] ∧ ((CallsW Try.prog 25 [.slice d_0 d_0_n d_0_c, .agg #[.int .u64 n27, .float .f64 x28]] w25 (RetR R fun u30 w29 => ∃ (n31 : Int) (x32 :
    Nat) (n33 : Int), u30 = .tuple #[.agg #[.int .u64 n31, .float .f64 x32], .int .i64 n33] ∧ SameB w25 w29 [(Addr.add d26 (n21.toNat * 2))] ∧ ∀ w35, Grew w29 w35 → SameB w29 w35 [(Addr.add d26 (n21.toNat * 2))] ∧ (((n33
    == 1) = true → withSome a12 (fun d36 => (0 ≤ n17 ∧ n17 < (l12 : Nat)) ∧ ∃ (n37 : Int), w35.cell? (Addr.add d36 (n17.toNat * 3)) = some (.int .u64 n37) ∧ ∀ w38, Grew w35 w38 → (((n31 == n37) = true → ∀ w39, Grew w38
    w39 → CallsW Try.prog 27 [.int .i64 d_1, .float .f64 x32] w39 (RetR R fun u41 w40 => ∃ (b42 : Bool) (n43 : Int), u41 = .agg #[.bool b42, .int .u64 n43] ∧ SameB w39 w40 [] ∧ CallsW Try.prog 26 [.int .i64 d_1, .agg
    #[.bool b22, .int .u64 n23], .agg #[.bool b42, .int .u64 n43]] w40 (RetR R fun u46 w45 => ∃ (b47 : Bool) (n48 : Int), u46 = .agg #[.bool b47, .int .u64 n48] ∧ (I20 (IntKind.i64.wrap (n21 + 1)) b47 n48 w45 ∧ m20
    (IntKind.i64.wrap (n21 + 1)) b47 n48 w45 < m20 n21 b22 n23 w24)))) ∧ ((n31 == n37) = false → (I20 (IntKind.i64.wrap (n21 + 1)) b22 n23 w38 ∧ m20 (IntKind.i64.wrap (n21 + 1)) b22 n23 w38 < m20 n21 b22 n23 w24))))) ∧
    ((n33 == 1) = false → ∀ w50, Grew w35 w50 → (I20 (IntKind.i64.wrap (n21 + 1)) b22 n23 w50 ∧ m20 (IntKind.i64.wrap (n21 + 1)) b22 n23 w50 < m20 n21 b22 n23 w24))))) ∧ (∀ w51, Grew w25 w51 → SameB w25 w51 [(Addr.add d26
    (n21.toNat * 2))] ∧ CallsW Try.prog 25 [.slice d_0 d_0_n d_0_c, .agg #[.int .u64 n27, .float .f64 x28]] w51 (RetR R fun u53 w52 => ∃ (n54 : Int) (x55 : Nat) (n56 : Int), u53 = .tuple #[.agg #[.int .u64 n54, .float
    .f64 x55], .int .i64 n56] ∧ SameB w51 w52 [(Addr.add d26 (n21.toNat * 2))] ∧ (((n56 == 1) = true → withSome a12 (fun d58 => (0 ≤ n17 ∧ n17 < (l12 : Nat)) ∧ ∃ (n59 : Int), w52.cell? (Addr.add d58 (n17.toNat * 3)) =
    some (.int .u64 n59) ∧ ∀ w60, Grew w52 w60 → (((n54 == n59) = true → ∀ w61, Grew w60 w61 → CallsW Try.prog 27 [.int .i64 d_1, .float .f64 x55] w61 (RetR R fun u63 w62 => ∃ (b64 : Bool) (n65 : Int), u63 = .agg #[.bool
    b64, .int .u64 n65] ∧ SameB w61 w62 [] ∧ CallsW Try.prog 26 [.int .i64 d_1, .agg #[.bool b22, .int .u64 n23], .agg #[.bool b64, .int .u64 n65]] w62 (RetR R fun u68 w67 => ∃ (b69 : Bool) (n70 : Int), u68 = .agg #[.bool
    b69, .int .u64 n70] ∧ (I20 (IntKind.i64.wrap (n21 + 1)) b69 n70 w67 ∧ m20 (IntKind.i64.wrap (n21 + 1)) b69 n70 w67 < m20 n21 b22 n23 w24)))) ∧ ((n54 == n59) = false → (I20 (IntKind.i64.wrap (n21 + 1)) b22 n23 w60 ∧
    m20 (IntKind.i64.wrap (n21 + 1)) b22 n23 w60 < m20 n21 b22 n23 w24))))) ∧ ((n56 == 1) = false → ∀ w72, Grew w52 w72 → (I20 (IntKind.i64.wrap (n21 + 1)) b22 n23 w72 ∧ m20 (IntKind.i64.wrap (n21 + 1)) b22 n23 w72 < m20
    n21 b22 n23 w24)))))))) ∧ ((decide (n21 < ((d_2_n : Nat) : Int))) = false → ∀ w73, Grew w24 w73 → withSome a12 (fun d74 => (0 ≤ n17 ∧ n17 < (l12 : Nat)) ∧ ∃ (b75 : Bool) (n76 : Int), CellsAt w73 (Addr.add (Addr.add
    d74 (n17.toNat * 3)) 1) 0 [.bool b75, .int .u64 n76] ∧ ∃ (b77 : Bool), PureTo Try.prog (eqS .neq 35 (.tmp 76) (.tmp 81) (.agg #[.bool b22, .int .u64 n23]) (.agg #[.bool b75, .int .u64 n76])) (.bool b77) ∧ ((b77 = true
    → R (.returned (.bool false)) w73) ∧ (b77 = false → withSome a12 (fun d78 => (0 ≤ n17 ∧ n17 < (l12 : Nat)) ∧ ∃ (n79 : Int), w73.cell? (Addr.add d78 (n17.toNat * 3)) = some (.int .u64 n79) ∧ CallsW Try.prog 19 [.slice
    a12 l12 c12, .int .u64 n79] w73 (RetR R fun u81 w80 => ∃ (b82 : Bool) (n83 : Int), u81 = .agg #[.bool b82, .int .u64 n83] ∧ SameB w73 w80 [(Addr.add d78 (n17.toNat * 3)), (Addr.add (Addr.add d74 (n17.toNat * 3)) 1)] ∧
    ∃ (b85 : Bool), PureTo Try.prog (eqS .neq 35 (.tmp 90) (.tmp 91) (.agg #[.bool b82, .int .u64 n83]) (.agg #[.bool b22, .int .u64 n23])) (.bool b85) ∧ ((b85 = true → R (.returned (.bool false)) w80) ∧ (b85 = false →
    (I16 (IntKind.i64.wrap (n17 + 1)) w80 ∧ m16 (IntKind.i64.wrap (n17 + 1)) w80 < m16 n17 w18))))))))))) ∧ ((decide (n17 < 8)) = false → R (.returned (.bool true)) w18))) ∧ ((decide (n17 < ((l12 : Nat) : Int))) = false →
    R (.returned (.bool true)) w18)))))))))))
theorem sx8.ok {d_0 : Option Addr} {d_0_n d_0_c : Nat} {d_1 : Int} {d_2 : Option Addr} {d_2_n d_2_c : Nat} {d_3 : Int} {R : Ending → World → Prop} {w : World} (h : sx8 d_0 d_0_n d_0_c d_1 d_2 d_2_n d_2_c d_3 R w) : CallsW Try.prog 8 [.agg #[.slice d_0 d_0_n d_0_c, .int .i64 d_1, .slice d_2 d_2_n d_2_c, .int .i64 d_3]] w R :=
  callsW_of mix Try.func8 (by kernel_rfl) (by kernel_rfl) (Eq.mpr (by kernel_rfl : denFn Try.prog { locals := [1, 7, 9], pureTo := [82, 92], draws := [(15, { order := (.cons 0 (.cons 1 (.cons 2 (.cons 3 (.cons 4 (.cons 5 (.cons 6 (.alt (.cons 7 (.cons 8 (.cons 9 (.cons 10 (.cons 11 (.cons 12 (.cons 13 .nil))))))) (.cons 11 (.cons 7 (.cons 8 (.cons 9 (.cons 10 (.cons 12 (.cons 13 .nil))))))))))))))), bars := [12] }), (17, { order := (.cons 0 (.cons 1 (.cons 2 (.cons 3 (.cons 4 (.cons 5 (.cons 6 (.cons 7 (.cons 8 (.cons 9 .nil)))))))))), bars := [8, 9] }), (18, { order := (.cons 0 (.cons 1 (.cons 2 (.cons 3 (.cons 4 (.cons 5 (.cons 6 (.cons 7 (.cons 8 (.cons 9 (.cons 10 (.cons 11 (.cons 12 (.cons 13 (.cons 15 (.cons 14 (.cons 16 (.cons 17 .nil)))))))))))))))))), bars := [] })], loops := [(13, { slots := [(8, .int .i64)], cells := [(7, 35, [.bool, .int .u64])] }), (1009, { slots := [(6, .int .i64)], cells := [] })] } Try.f8 [.agg #[.slice d_0 d_0_n d_0_c, .int .i64 d_1, .slice d_2 d_2_n d_2_c, .int .i64 d_3]] R w = sx8 d_0 d_0_n d_0_c d_1 d_2 d_2_n d_2_c d_3 R w) h)


structure OneSt (w w0 : World) (l : List OpV) (kind key : Int) (rs : List RecV) (i : Int) (b : Bool) (n : Int) (q : Nat) (w' : World) : Prop where
  i : i = q
  le : q ≤ rs.length
  val : (⟨b, n⟩ : ValV) = oneV l kind key (rs.take q)
  from0 : Grew w0 w'
  grew : Grew w w'
theorem pairKey {w : World} {d : Addr} {k : Nat} {x : PairV} (h : CellsAt w (d.add (k * Enc.pair.sz)) 0 (Enc.pair.f x)) : w.cell? (Addr.add d (((k : Nat) : Int).toNat * 3)) = some (.int .u64 x.key) := (pair_cells h).2
theorem pairVal {w : World} {d : Addr} {k : Nat} {x : PairV} (h : CellsAt w (d.add (k * Enc.pair.sz)) 0 (Enc.pair.f x)) : CellsAt w (Addr.add (Addr.add d (((k : Nat) : Int).toNat * 3)) 1) 0 [.bool x.has, .int .u64 x.bits] := by
  refine cellsAt_of fun j v hj => ?_
  match j, hj with
  | 0, hj => have := cellsAt_get h 1 v hj; simpa [Enc.pair, Addr.add_add] using this
  | 1, hj => have := cellsAt_get h 2 v hj; simpa [Enc.pair, Addr.add_add] using this

set_option maxHeartbeats 1000000 in
theorem FoldOne_ok {j : JobS} {w : World} (hj : JobOk 1048576 w j) :
    CallsW Try.prog 8 [jobv j.o.1 j.o.2.1 j.o.2.2 j.kind j.r.1 j.r.2.1 j.r.2.2 j.at_] w (Rets fun v w' => v = .bool true ∧ Grew w w') := by
  obtain ⟨⟨oa, on, oc⟩, kind, ⟨ra, rn, rc⟩, at_⟩ := j
  obtain ⟨l, rs, hJ, hl, hrl⟩ := hj
  simp only at hJ ⊢
  refine sx8.ok ?_
  unfold sx8
  have hn : rn = rs.length := hJ.recs.2.1
  subst hn
  have nb : ∀ {x y : World}, SameB x y [] := by intro x y; simp [SameB]
  intro w1 hg1
  refine awakeF_ok.use fun v w2 ⟨hv, hg2⟩ => ?_
  subst hv
  have hg2 := hg1.trans hg2
  refine ⟨_, rfl, fun h => (by cases h), fun _ => (right_ok (hJ.grew hg2).ops).use fun v w6 ⟨hv, hg6⟩ => ?_⟩
  subst hv
  have hg6 := hg2.trans hg6
  cases hc : checkB l
  · exact ⟨_, rfl, fun _ => ⟨_, rfl, rfl, hg6⟩, fun h => (by simp at h)⟩
  cases hk : knownB kind
  · exact ⟨_, rfl, fun _ => ⟨_, rfl, rfl, hg6⟩, fun h => (by simp at h)⟩
  refine ⟨_, rfl, fun h => (by simp at h), fun _ => ?_⟩
  refine (table_okK (oa := oa) (on := on) (oc := oc) (ra := ra) (rn := rs.length) (rc := rc) (at_ := at_) hc hk (hJ.grew hg6).ops hJ.fo (hJ.grew hg6).recs hJ.fr hrl).use fun u w10 ⟨a12, l12, c12, hv, ho12, hg10⟩ => ?_
  subst hv
  have hg10' := hg6.trans hg10
  have tR := tabl_len (l := l) (kind := kind) (rs := rs)
  have hone : ∀ x ∈ tableT (batchAll l kind rs).1, oneV l kind x.key rs = x.val ∧ findT (tableT (batchAll l kind rs).1) x.key = x.val := fun x hx => one_table hk hJ.fo hJ.fr hx
  have hl12 := ho12.len
  generalize tableT (batchAll l kind rs).1 = T at ho12 hl12 tR hone
  subst hl12
  refine ⟨_, _, _, _, _, rfl, fun h => (by cases h), fun _ => ⟨fun i w' => ∃ p : Nat, i = p ∧ p ≤ T.length ∧ Grew w10 w', fun i _ => T.length - i.toNat, ⟨0, rfl, Nat.zero_le _, Grew.refl _⟩, ?_⟩⟩
  rintro n17 w18 ⟨p, rfl, hp, hg18⟩
  have hw17 : (p : Int) < 9223372036854775807 → IntKind.i64.wrap ((p : Int) + 1) = ((p + 1 : Nat) : Int) := by intro h; rw [IntKind.wrap_i64]; omega
  refine ⟨fun hlt => ⟨fun _ w19 hg19 => ?_, fun _ => ⟨_, rfl, rfl, hg10'.trans hg18⟩⟩, fun _ => ⟨_, rfl, rfl, hg10'.trans hg18⟩⟩
  simp only [decide_eq_true_eq] at hlt
  have hg19' := hg18.trans hg19
  obtain ⟨d12, x, rfl, hx, hxc⟩ := (ho12.grew hg19').reads.at0 (k := p) (by omega)
  refine ⟨fun i b n w' => ∃ q, OneSt w10 w19 l kind x.key rs i b n q w', fun i _ _ _ => rs.length - i.toNat, ⟨0, rfl, Nat.zero_le _, rfl, Grew.refl _, hg19'⟩, ?_⟩
  rintro n21 b22 n23 w24 ⟨q, st⟩
  obtain rfl := st.i
  have hq := st.le
  refine ⟨fun hlt2 w25 hg25 => ?_, fun hge w73 hg73 => ?_⟩
  · simp only [decide_eq_true_eq] at hlt2
    have hw : IntKind.i64.wrap ((q : Int) + 1) = ((q + 1 : Nat) : Int) := by rw [IntKind.wrap_i64]; omega
    have dec : rs.length - (IntKind.i64.wrap ((q : Int) + 1)).toNat < rs.length - ((q : Int)).toNat := by rw [hw]; omega
    have hgw := (hg10'.trans st.grew).trans hg25
    obtain ⟨d, r, hd, hrj, hcc⟩ := (hJ.recs.grew hgw).at0 (k := q) (by omega)
    have hcell : CellsAt w25 (Addr.add d (((q : Nat) : Int).toNat * 2)) 0 [.int .u64 r.key, .float .f64 r.val] := hcc
    have hblk : (Addr.add d (((q : Nat) : Int).toNat * 2)).block < w25.heap.size := cell_blockF hcell.1
    have hrf := hJ.fr r (List.mem_of_getElem? hrj)
    have hR := runB_fits hJ.fo hrf
    have hT : rs.take (q + 1) = rs.take q ++ [r] := take_snoc hrj
    have hpc := (hxc.grew st.from0).grew hg25
    rw [hd, withSome]
    refine ⟨⟨by omega, by omega⟩, _, _, hcell, ?_, ?_⟩
    · refine (Run_ok (r := r) (hJ.ops.grew hgw) hJ.fo hrf).use fun u w29 ⟨hv, hg29⟩ => ?_
      subst hv
      refine ⟨_, _, _, rfl, ⟨hg29.block _ hblk, trivial⟩, fun w35 hg35 => ⟨⟨hg35.block _ (Nat.lt_of_lt_of_le hblk hg29.size), trivial⟩, ?_⟩⟩
      refine ⟨fun h1 => ?_, fun h1 => ?_⟩
      · simp only [beq_iff_eq] at h1
        rw [withSome]
        have c59 := pairKey (hpc.grew (hg29.trans hg35))
        refine ⟨⟨by omega, by omega⟩, _, c59, fun w38 hg38 => ⟨fun h2 w39 hg39 => ?_, fun h2 => ?_⟩⟩
        · simp only [beq_iff_eq] at h2
          refine (Of_okV (kind := kind) hR.2).use fun u w40 ⟨hv, hg40⟩ => ?_
          subst hv
          have hzf : (⟨b22, n23⟩ : ValV).Fits := by rw [st.val]; exact oneV_fits hJ.fo _ _ _ (fun x hx => hJ.fr x (List.mem_of_mem_take hx)) ⟨by decide, by decide⟩
          refine ⟨_, _, rfl, nb, (Merge_ok (kind := kind) hzf (ofV_fits hR.2)).use fun u w45 ⟨hv, hg45⟩ => ?_⟩
          subst hv
          have hgg := ((hg29.trans hg35)).trans (hg38.trans (hg39.trans (hg40.trans hg45)))
          exact ⟨_, _, rfl, ⟨q + 1, hw, by omega, by rw [hT, oneV_snoc, if_pos ⟨h1, h2⟩, ← st.val], st.from0.trans (hg25.trans hgg), st.grew.trans (hg25.trans hgg)⟩, dec⟩
        · simp only [beq_eq_false_iff_ne, ne_eq] at h2
          have hgg := ((hg29.trans hg35)).trans hg38
          exact ⟨⟨q + 1, hw, by omega, by rw [hT, oneV_snoc, if_neg (fun h => h2 h.2), ← st.val], st.from0.trans (hg25.trans hgg), st.grew.trans (hg25.trans hgg)⟩, dec⟩
      · simp only [beq_eq_false_iff_ne, ne_eq] at h1
        intro w50 hg50
        have hgg := ((hg29.trans hg35)).trans hg50
        exact ⟨⟨q + 1, hw, by omega, by rw [hT, oneV_snoc, if_neg (fun h => h1 h.1), ← st.val], st.from0.trans (hg25.trans hgg), st.grew.trans (hg25.trans hgg)⟩, dec⟩
    · intro w51 hg51
      refine ⟨⟨hg51.block _ hblk, trivial⟩, ?_⟩
      refine (Run_ok (r := r) ((hJ.ops.grew hgw).grew hg51) hJ.fo hrf).use fun u w52 ⟨hv, hg52⟩ => ?_
      subst hv
      refine ⟨_, _, _, rfl, ⟨hg52.block _ (Nat.lt_of_lt_of_le hblk hg51.size), trivial⟩, ?_⟩
      refine ⟨fun h1 => ?_, fun h1 => ?_⟩
      · simp only [beq_iff_eq] at h1
        rw [withSome]
        have c59 := pairKey (hpc.grew (hg51.trans hg52))
        refine ⟨⟨by omega, by omega⟩, _, c59, fun w38 hg38 => ⟨fun h2 w39 hg39 => ?_, fun h2 => ?_⟩⟩
        · simp only [beq_iff_eq] at h2
          refine (Of_okV (kind := kind) hR.2).use fun u w40 ⟨hv, hg40⟩ => ?_
          subst hv
          have hzf : (⟨b22, n23⟩ : ValV).Fits := by rw [st.val]; exact oneV_fits hJ.fo _ _ _ (fun x hx => hJ.fr x (List.mem_of_mem_take hx)) ⟨by decide, by decide⟩
          refine ⟨_, _, rfl, nb, (Merge_ok (kind := kind) hzf (ofV_fits hR.2)).use fun u w45 ⟨hv, hg45⟩ => ?_⟩
          subst hv
          have hgg := ((hg51.trans hg52)).trans (hg38.trans (hg39.trans (hg40.trans hg45)))
          exact ⟨_, _, rfl, ⟨q + 1, hw, by omega, by rw [hT, oneV_snoc, if_pos ⟨h1, h2⟩, ← st.val], st.from0.trans (hg25.trans hgg), st.grew.trans (hg25.trans hgg)⟩, dec⟩
        · simp only [beq_eq_false_iff_ne, ne_eq] at h2
          have hgg := ((hg51.trans hg52)).trans hg38
          exact ⟨⟨q + 1, hw, by omega, by rw [hT, oneV_snoc, if_neg (fun h => h2 h.2), ← st.val], st.from0.trans (hg25.trans hgg), st.grew.trans (hg25.trans hgg)⟩, dec⟩
      · simp only [beq_eq_false_iff_ne, ne_eq] at h1
        intro w50 hg50
        have hgg := ((hg51.trans hg52)).trans hg50
        exact ⟨⟨q + 1, hw, by omega, by rw [hT, oneV_snoc, if_neg (fun h => h1 h.1), ← st.val], st.from0.trans (hg25.trans hgg), st.grew.trans (hg25.trans hgg)⟩, dec⟩
  simp only [decide_eq_false_iff_not] at hge
  have hqn : q = rs.length := by omega
  subst hqn
  obtain ⟨-, -, hval, hf0, hg24⟩ := st
  rw [List.take_length] at hval
  obtain ⟨o1, o2⟩ := hone x (List.mem_of_getElem? hx)
  rw [o1] at hval
  have hxc73 := (hxc.grew hf0).grew hg73
  have hpv := pairVal hxc73
  have hpk := pairKey hxc73
  rw [withSome]
  refine ⟨⟨by omega, by omega⟩, _, _, hpv, _, val_neq (x := ⟨b22, n23⟩) (y := x.val), fun h => (by rw [hval] at h; simp at h), fun _ => ?_⟩
  rw [withSome]
  refine ⟨⟨by omega, by omega⟩, _, hpk, ?_⟩
  have hg73' := hg24.trans hg73
  refine (Find_ok (key := x.key) ((ho12.grew hg73').reads) (by simp only [maxLen]; omega)).use fun u w80 ⟨hv, hg80⟩ => ?_
  subst hv
  have b1 : (Addr.add d12 (((p : Nat) : Int).toNat * 3)).block < w73.heap.size := cell_blockF hpk
  refine ⟨_, _, rfl, ⟨hg80.block _ b1, hg80.block _ (by simpa [add_block] using b1), trivial⟩, _, val_neq (x := findT T x.key) (y := ⟨b22, n23⟩), fun h => (by rw [hval, o2] at h; simp at h), fun _ => ?_⟩
  have hwp := hw17 (by omega)
  exact ⟨⟨p + 1, hwp, by omega, hg73'.trans hg80⟩, by show T.length - (IntKind.i64.wrap ((p : Int) + 1)).toNat < T.length - ((p : Int)).toNat; rw [hwp]; omega⟩

section
variable {H : Type}
theorem upto_pos (d : DataW H) : 1 ≤ Rows.uptoBulk d := by
  cases d with
  | lit l => cases l <;> simp [Rows.uptoBulk]
  | _ => simp [Rows.uptoBulk]
theorem upto_all_len : ∀ ds : List (DataW H), ds.length ≤ Rows.uptoBulkAll ds
  | [] => by simp [Rows.uptoBulkAll]
  | d :: r => by
    have h1 := upto_pos d; have h2 := upto_all_len r
    simp only [Rows.uptoBulkAll, List.length_cons]; omega
theorem upto_mem : ∀ {ds : List (DataW H)} {j : Nat} {d : DataW H}, ds[j]? = some d → Rows.uptoBulk d ≤ Rows.uptoBulkAll ds
  | [], j, d, h => by simp at h
  | x :: r, 0, d, h => by simp at h; subst h; simp only [Rows.uptoBulkAll]; omega
  | x :: r, j + 1, d, h => by
    have := upto_mem (ds := r) (j := j) (d := d) (by simpa using h)
    simp only [Rows.uptoBulkAll]; omega
theorem upto_len {ds : List (DataW H)} {B : Nat} (h : Rows.uptoBulkAll ds ≤ B) {j : Nat} {d : DataW H} {n : Nat} (hd : ds[j]? = some d) (hs : (d = .nil ∧ n = 0) ∨ ∃ es sp, d = .slice es sp ∧ es.length = n) : n ≤ B := by
  have h1 := upto_mem hd
  rcases hs with ⟨-, rfl⟩ | ⟨es, sp, rfl, rfl⟩
  · omega
  · have h2 := upto_all_len es
    simp only [Rows.uptoBulk] at h1; omega
end
section
variable {H : Type}
theorem upto_in {ds : List (DataW H)} {d : DataW H} (h : d ∈ ds) : Rows.uptoBulk d ≤ Rows.uptoBulkAll ds := by
  obtain ⟨j, hj⟩ := List.getElem?_of_mem h
  exact upto_mem hj
def uptoBd (H : Type) : Up.Bd H := ⟨Rows.uptoBulk, 1048576, fun es sp => by have := upto_all_len es; simp only [Rows.uptoBulk]; omega, fun es sp d hd => by have := upto_in hd; simp only [Rows.uptoBulk]; omega, fun ds d hd => by have := upto_in hd; simp only [Rows.uptoBulk]; omega⟩
end
open Go.ChangeShapes Go.WideShapes Go.ChangeAt Go.RowKit
set_option maxRecDepth 100000 in
theorem foldOne_lifted (os : Os) (started : os.Started) (H : Type) (enc : TypeId × Value → H) (F : Stop.Interp) :
    ReturnsInHanded {} Try.checked os 8 .any ((Rows.OpenSpec.upto Rows.foldOneSpec).pre6 enc Try.prog Try.f8 Rows.foldOneUptoRow.domain false) (((Rows.OpenSpec.upto Rows.foldOneSpec).at F).post enc Try.prog Try.f8 false true false false) := by
  refine returnsInHanded_of_cond_sized (s := Rows.OpenSpec.upto Rows.foldOneSpec) (k := Rows.uptoSmall) (by rfl) (C := Try.checked) (by kernel_rfl) started (by kernel_rfl) Try.func8
    (OpenSpec.witness (s := Rows.OpenSpec.upto Rows.foldOneSpec) (k := Rows.uptoSmall) (by rfl) (enc := enc) (C := Try.checked) (x := ([.agg [.nil, .lit (.int .i64 0), .nil, .lit (.int .i64 0)]], [], [])) false ⟨#[], #[.agg #[.slice none 0 0, .int .i64 0, .slice none 0 0, .int .i64 0]], []⟩ 8 (by kernel_rfl) (by kernel_rfl) (by kernel_rfl) (by kernel_rfl) (by kernel_rfl) (by kernel_rfl)) ?_
  intro W base args ds gs before hval0 hW hcnd hsm0 hsz0 _
  have hval : ∀ (j : Nat) t v, Try.f8.params[j]? = some t → args[j]? = some v → Value.okWide Try.prog W .any base t v := hval0
  have hW' := hW
  obtain ⟨p, q, hA0, hV, rfl, hfz, hnd⟩ := hW
  have hA : DataW.TrodAll enc Try.prog W 0 (fun _ => true) true Try.f8.params.toList args.toList ds p := hA0
  have hsz : (DataW.weightsEach Try.prog (Try.f8.params.toList ++ _) (ds ++ gs)).all (· ≤ reachBytes) = true := hsz0
  rw [show Try.f8.params = #[43] from by kernel_rfl] at hA hval hsz
  have hA1 := hA
  obtain ⟨v0, vs0, d0, ds0, p0, q0, hargs, rfl, rfl, h0, r0⟩ := trodAll_cons hA
  obtain ⟨rfl, rfl, rfl⟩ := trodAll_nil r0
  obtain rfl : args = #[v0] := by cases args; simp_all
  have hsm : Rows.uptoBulkAll _ ≤ 1048576 := of_decide_eq_true hsm0
  obtain ⟨j0, rfl, hj0⟩ := openJob (Q := uptoBd H) (fun d hd => Nat.le_trans (upto_in hd) hsm) (j := 0) hsz rfl rfl (hval 0 43 v0 rfl rfl) h0
  clear hA0 hA1 hval0 hsz0
  refine (CallsW.calls ⟨_, Try.func8, by kernel_rfl, by kernel_rfl⟩ (FoldOne_ok hj0)).mono fun e W' ⟨w', hh, hk, v, he, hv, hg⟩ => ?_
  subst he; subst hv
  exact ⟨_, rfl, post_true (tb := 4) (by kernel_rfl) rfl (by kernel_rfl) (by kernel_rfl) ⟨rfl, rfl, rfl⟩ (by decide +kernel) hW' (below_of hg hh hk)⟩

theorem foldOne_holds : Rows.FoldOneUptoSaid :=
  OpenClaim.holds_of_cond 8 Try.f8 rfl rfl rfl rfl rfl rfl rfl ⟨rfl, rfl, rfl, rfl, rfl⟩ rfl rfl rfl rfl rfl (by kernel_rfl) Try.func8 (by kernel_rfl)
    (of_decide_eq_true (by kernel_rfl)) (by unfold Func.isWrapper; first | (rw [if_pos (by decide +kernel)]; kernel_rfl) | (rw [if_neg (by decide +kernel)]; exact ⟨rfl, rfl⟩))
    (fun os started H enc _ F => foldOne_lifted os started H enc F)
end Go.Proofs.Ytoljpkdokpinhaa
