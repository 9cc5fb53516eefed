/- SourceRefuses: what it computes, and its row. Conditions: none. -/
import Derived.Test.YtifhpmmdfjmppaaProg
import Derived.Test.YtifhpmmdfjmppaaKindsS
import Derived.Test.YtifhpmmdfjmppaaRows
namespace Go.Proofs.Ytifhpmmdfjmppaa
open Go.Sx
set_option maxRecDepth 100000
set_option linter.unusedVariables false
set_option linter.unusedSimpArgs false
/- reprise/repriselaw06.SourceRefuses -/
def sx3 (d : Option Addr) (d_n d_c : Nat) (i : Option Addr) (i_n i_c : Nat) (R : Ending → World → Prop) (w : World) : Prop :=
  CallsW Try.prog 7 [] w (RetR R fun u2 w1 => ∃ (b3 : Bool), u2 = .bool b3 ∧ (((!b3) = true → R (.returned (.bool false)) w1) ∧ ((!b3) = false → CallsW Try.prog 8 [.int .i64 2, .slice d d_n d_c] w1 (RetR R fun u6 w5 => ∃
    (p7 : Option Addr) (n8 : Int), u6 = .tuple #[.pointer p7, .int .i64 n8] ∧ (((n8 != 0) = true → CallsW Try.prog 9 [.slice d d_n d_c] w5 (RetR R fun u11 w10 => ∃ (n12 : Int), u11 = .int .i64 n12 ∧ (((n8 == n12) = true →
    R (.returned (.bool (Option.isNone p7))) w10) ∧ ((n8 == n12) = false → R (.returned (.bool false)) w10)))) ∧ ((n8 != 0) = false → (((Option.isNone p7) = true → CallsW Try.prog 9 [.slice d d_n d_c] w5 (RetR R fun u15
    w14 => ∃ (n16 : Int), u15 = .int .i64 n16 ∧ (((n8 == n16) = true → R (.returned (.bool (Option.isNone p7))) w14) ∧ ((n8 == n16) = false → R (.returned (.bool false)) w14)))) ∧ ((Option.isNone p7) = false → ∃ (I18 :
    Int → World → Prop) (m18 : Int → World → Nat), I18 0 w5 ∧ ∀ (n19 : Int) (w20 : World), I18 n19 w20 → (((decide (n19 < ((i_n : Nat) : Int))) = true → (((decide (n19 < 4096)) = true → withSome i (fun d21 => (0 ≤ n19 ∧
    n19 < (i_n : Nat)) ∧ ∃ (n22 : Int), w20.cell? (Addr.add d21 (n19.toNat * 3)) = some (.int .i64 n22) ∧ (((2 : Int) = 0 → R (.panicked (divPanic Try.prog)) w20) ∧ ((2 : Int) ≠ 0 → ∀ n23 : Int, n23 = Int.tmod
    (IntKind.u64.wrap n22) 2 → withSome i (fun d24 => (0 ≤ n19 ∧ n19 < (i_n : Nat)) ∧ ∃ (n25 : Int) (x26 : Nat), CellsAt w20 (Addr.add (Addr.add d24 (n19.toNat * 3)) 1) 0 [.int .u64 n25, .float .f64 x26] ∧ ∀ w27, Grew w20
    w27 → CallsW Try.prog 10 [.pointer p7, .int .i64 (IntKind.i64.wrap n23)] w27 (RetR R fun u29 w28 => ∃ (n30 : Int), u29 = .int .i64 n30 ∧ CallsW Try.prog 11 [.pointer p7] w28 (RetR R fun u33 w32 => ∃ (a34 : Option
    Addr) (l34 c34 : Nat), u33 = .slice a34 l34 c34 ∧ CallsW Try.prog 12 [.slice d d_n d_c, .agg #[.int .u64 n25, .float .f64 x26]] w32 (RetR R fun u37 w36 => ∃ (n38 : Int) (b39 : Bool), u37 = .tuple #[.int .u64 n38,
    .bool b39] ∧ ∃ (I41 : Bool → Int → World → Prop) (m41 : Bool → Int → World → Nat), I41 false 0 w36 ∧ ∀ (b42 : Bool) (n43 : Int) (w44 : World), I41 b42 n43 w44 → (((decide (n43 < ((l34 : Nat) : Int))) = true → ((b42 =
    true → (I41 true (IntKind.i64.wrap (n43 + 1)) w44 ∧ m41 true (IntKind.i64.wrap (n43 + 1)) w44 < m41 b42 n43 w44)) ∧ (b42 = false → withSome a34 (fun d45 => (0 ≤ n43 ∧ n43 < (l34 : Nat)) ∧ ∃ (n46 : Int), w44.cell?
    (Addr.add d45 (n43.toNat * 1)) = some (.int .u64 n46) ∧ (I41 (n46 == n38) (IntKind.i64.wrap (n43 + 1)) w44 ∧ m41 (n46 == n38) (IntKind.i64.wrap (n43 + 1)) w44 < m41 b42 n43 w44))))) ∧ ((decide (n43 < ((l34 : Nat) :
    Int))) = false → ∃ (J47 : Int → World → Prop), ((((n30 == 256) = true → J47 61 w44) ∧ ((n30 == 256) = false → ((b39 = true → (((!b42) = true → (((((l34 : Nat) : Int) == 64) = true → J47 62 w44) ∧ ((((l34 : Nat) : Int)
    == 64) = false → J47 0 w44))) ∧ ((!b42) = false → J47 0 w44))) ∧ (b39 = false → J47 0 w44))))) ∧ ∀ (n48 : Int) (w49 : World), J47 n48 w49 → CallsW Try.prog 13 [.pointer p7, .int .i64 (IntKind.i64.wrap n23), .agg
    #[.int .u64 n25, .float .f64 x26]] w49 (RetR R fun u51 w50 => ∃ (n52 : Int), u51 = .int .i64 n52 ∧ CallsW Try.prog 11 [.pointer p7] w50 (RetR R fun u55 w54 => ∃ (a56 : Option Addr) (l56 c56 : Nat), u55 = .slice a56
    l56 c56 ∧ (((n52 != n48) = true → R (.returned (.bool false)) w54) ∧ ((n52 != n48) = false → (((decide (((l56 : Nat) : Int) > 64)) = true → R (.returned (.bool false)) w54) ∧ ((decide (((l56 : Nat) : Int) > 64)) =
    false → CallsW Try.prog 10 [.pointer p7, .int .i64 (IntKind.i64.wrap n23)] w54 (RetR R fun u59 w58 => ∃ (n60 : Int), u59 = .int .i64 n60 ∧ (((decide (n60 > 256)) = true → R (.returned (.bool false)) w58) ∧ ((decide
    (n60 > 256)) = false → (((n52 != 0) = true → CallsW Try.prog 10 [.pointer p7, .int .i64 (IntKind.i64.wrap n23)] w58 (RetR R fun u63 w62 => ∃ (n64 : Int), u63 = .int .i64 n64 ∧ (((n64 != n30) = true → R (.returned
    (.bool false)) w62) ∧ ((n64 != n30) = false → CallsW Try.prog 14 [.slice a34 l34 c34, .slice a56 l56 c56] w62 (RetR R fun u67 w66 => ∃ (b68 : Bool), u67 = .bool b68 ∧ (((!b68) = true → R (.returned (.bool false)) w66)
    ∧ ((!b68) = false → (I18 (IntKind.i64.wrap (n19 + 1)) w66 ∧ m18 (IntKind.i64.wrap (n19 + 1)) w66 < m18 n19 w20)))))))) ∧ ((n52 != 0) = false → CallsW Try.prog 10 [.pointer p7, .int .i64 (IntKind.i64.wrap n23)] w58
    (RetR R fun u71 w70 => ∃ (n72 : Int), u71 = .int .i64 n72 ∧ (((n72 != IntKind.i64.wrap (n30 + 1)) = true → R (.returned (.bool false)) w70) ∧ ((n72 != IntKind.i64.wrap (n30 + 1)) = false → ((b42 = true → (((!((((l56 :
    Nat) : Int) == ((l34 : Nat) : Int)) == true)) = true → R (.returned (.bool false)) w70) ∧ ((!((((l56 : Nat) : Int) == ((l34 : Nat) : Int)) == true)) = false → CallsW Try.prog 15 [.pointer p7, .int .i64
    (IntKind.i64.wrap n23)] w70 (RetR R fun u75 w74 => ∃ (a76 : Option Addr) (l76 c76 : Nat), u75 = .slice a76 l76 c76 ∧ ∀ w78, Grew w74 w78 → (0 ≤ n30 ∧ n30 ≤ (l76 : Nat)) ∧ ∀ (b79 : Nat) (w80 : World), Alloc w78 w80 b79
    (.cells #[.int .u64 n25, .float .f64 x26] 34) → CallsW Try.prog 16 [.slice (if c76 = n30.toNat then a76 else Option.map (fun x => Addr.add x (n30.toNat * 2)) a76) (l76 - n30.toNat) (c76 - n30.toNat), .slice (some
    ⟨b79, 0, none⟩) 1 1] w80 (RetR R fun u82 w81 => ∃ (b83 : Bool), u82 = .bool b83 ∧ (((!b83) = true → R (.returned (.bool false)) w81) ∧ ((!b83) = false → (I18 (IntKind.i64.wrap (n19 + 1)) w81 ∧ m18 (IntKind.i64.wrap
    (n19 + 1)) w81 < m18 n19 w20)))))))) ∧ (b42 = false → (((!((((l56 : Nat) : Int) == ((l34 : Nat) : Int)) == !b39)) = true → R (.returned (.bool false)) w70) ∧ ((!((((l56 : Nat) : Int) == ((l34 : Nat) : Int)) == !b39))
    = false → CallsW Try.prog 15 [.pointer p7, .int .i64 (IntKind.i64.wrap n23)] w70 (RetR R fun u86 w85 => ∃ (a87 : Option Addr) (l87 c87 : Nat), u86 = .slice a87 l87 c87 ∧ ∀ w89, Grew w85 w89 → (0 ≤ n30 ∧ n30 ≤ (l87 :
    Nat)) ∧ ∀ (b90 : Nat) (w91 : World), Alloc w89 w91 b90 (.cells #[.int .u64 n25, .float .f64 x26] 34) → CallsW Try.prog 16 [.slice (if c87 = n30.toNat then a87 else Option.map (fun x => Addr.add x (n30.toNat * 2)) a87)
    (l87 - n30.toNat) (c87 - n30.toNat), .slice (some ⟨b90, 0, none⟩) 1 1] w91 (RetR R fun u93 w92 => ∃ (b94 : Bool), u93 = .bool b94 ∧ (((!b94) = true → R (.returned (.bool false)) w92) ∧ ((!b94) = false → (I18
    (IntKind.i64.wrap (n19 + 1)) w92 ∧ m18 (IntKind.i64.wrap (n19 + 1)) w92 < m18 n19 w20))))))))))))))))))))))))))))))))) ∧ ((decide (n19 < 4096)) = false → R (.returned (.bool true)) w20))) ∧ ((decide (n19 < ((i_n :
    Nat) : Int))) = false → R (.returned (.bool true)) w20))))))))))
theorem sx3.ok {d : Option Addr} {d_n d_c : Nat} {i : Option Addr} {i_n i_c : Nat} {R : Ending → World → Prop} {w : World} (h : sx3 d d_n d_c i i_n i_c R w) : CallsW Try.prog 3 [.slice d d_n d_c, .slice i i_n i_c] w R :=
  callsW_of mix Try.func3 (by kernel_rfl) (by kernel_rfl) (Eq.mpr (by kernel_rfl : denFn Try.prog { locals := [9], named := [57], draws := [(34, { order := (.cons 0 (.cons 1 (.cons 2 (.cons 3 (.cons 4 (.cons 5 (.cons 6 .nil))))))), bars := [4, 5] })], loops := [(16, { slots := [(14, .bool), (15, .int .i64)], cells := [] }), (1007, { slots := [(7, .int .i64)], cells := [] })], cuts := [(24, { slots := [(16, .int .i64)], cells := [] })] } Try.f3 [.slice d d_n d_c, .slice i i_n i_c] R w = sx3 d d_n d_c i i_n i_c R w) h)


/-- what a record's fate is -/
def wantV (v : SrcV) (p : Int) (r : RecV) : Int := if v.len p = 256 then 61 else if (keyOfB v.list r).2 = true ∧ (keyOfB v.list r).1 ∉ v.keys ∧ v.keys.length = 64 then 62 else 0
theorem produce_want {v : SrcV} {p : Int} {r : RecV} {q : List RecV × Bool} (hq : v.getP p = some q) (hf : v.Fits) :
    (v.produce p r).2 = wantV v p r ∧ ((v.produce p r).2 ≠ 0 → (v.produce p r).1 = v) ∧ ((v.produce p r).2 = 0 → (v.produce p r).1.getP p = some (q.1 ++ [r], q.2) ∧ (v.produce p r).1.keys = if (keyOfB v.list r).2 = true ∧ (keyOfB v.list r).1 ∉ v.keys then v.keys ++ [(keyOfB v.list r).1] else v.keys) := by
  obtain ⟨h0, h1, h2⟩ := getP_some hq
  have hl : v.len p = q.1.length := by unfold SrcV.len; rw [hq]
  have hql := (hf.logs q (List.mem_of_getElem? h2)).1
  have hkl := hf.keys.2.1
  have hset : ∀ ks, ({ v.setP p (q.1 ++ [r], q.2) with keys := ks } : SrcV).getP p = some (q.1 ++ [r], q.2) := by
    intro ks
    unfold SrcV.getP SrcV.setP
    rw [if_pos h0]
    simp only
    rw [List.getElem?_set, if_pos rfl, if_pos (by omega)]
  unfold SrcV.produce wantV
  rw [hq, hl]
  simp only
  by_cases h256 : 256 ≤ q.1.length
  · rw [if_pos h256, if_pos (by omega)]
    exact ⟨rfl, fun _ => rfl, fun h => by simp at h⟩
  · have hn256 : ¬ ((q.1.length : Int) = 256) := by omega
    rw [if_neg h256, if_neg hn256]
    cases hk : (keyOfB v.list r).2
    · simp only [Bool.false_eq_true, if_false, false_and]
      exact ⟨by first | rfl | trivial, fun h => absurd rfl h, fun _ => ⟨hset v.keys, rfl⟩⟩
    · simp only [if_true, true_and]
      by_cases hin : (keyOfB v.list r).1 ∈ v.keys
      · rw [if_pos hin, if_neg (by simp [hin])]
        refine ⟨rfl, fun h => absurd rfl h, fun _ => ⟨hset v.keys, ?_⟩⟩
        rw [if_neg (by simp [hin])]; rfl
      · rw [if_neg hin]
        by_cases h64 : 64 ≤ v.keys.length
        · rw [if_pos h64, if_pos ⟨hin, by omega⟩]
          exact ⟨rfl, fun _ => rfl, fun h => by simp at h⟩
        · rw [if_neg h64, if_neg (fun hh => h64 (by omega))]
          refine ⟨rfl, fun h => absurd rfl h, fun _ => ⟨hset _, ?_⟩⟩
          rw [if_pos hin]

set_option maxHeartbeats 2000000 in
theorem SourceRefuses_ok {a b : Option Addr} {n c m d : Nat} {l : List OpV} {its : List ItemV} {w : World} (hr : Reads w Enc.op3 (a, n, c) l) (hl : ∀ o ∈ l, o.Fits) (hn : l.length ≤ maxLen) (hb : l.length * 24 ≤ 140737488351232)
    (hi : Reads w Enc.item (b, m, d) its) (hf : ∀ x ∈ its, x.Fits) (hni : its.length ≤ maxLen) (hbi : its.length * 24 ≤ 140737488351232) :
    CallsW Try.prog 3 [.slice a n c, .slice b m d] w (Rets fun v w' => v = .bool true ∧ Grew w w') := by
  refine sx3.ok ?_
  unfold sx3
  have hm : m = its.length := hi.2.1
  subst hm
  refine awakeS_ok.use fun v w1 ⟨hv, hg1⟩ => ?_
  subst hv
  refine ⟨_, rfl, fun h => (by cases h), fun _ => ?_⟩
  refine (SNew_ok (hr.grew hg1) hl).use fun v w5 ⟨hg5, hv⟩ => ?_
  have hg5' := hg1.trans hg5
  rcases hv with ⟨h, -⟩ | ⟨-, hc, hv⟩ | ⟨-, hc, x, hv, hS⟩
  · omega
  · subst hv
    refine ⟨_, _, rfl, fun _ => (Check_ok (hr.grew hg5')).use fun v w9 ⟨hv, hg9⟩ => ?_, fun h => (by simp at h)⟩
    subst hv
    rw [hc]
    exact ⟨_, rfl, fun _ => ⟨_, rfl, rfl, hg5'.trans hg9⟩, fun h => (by simp at h)⟩
  subst hv
  refine ⟨_, _, rfl, fun h => (by simp at h), fun _ => ⟨fun h => (by cases h), fun _ => ?_⟩⟩
  have hB : w.heap.size ≤ w1.heap.size := hg1.size
  refine ⟨fun i w' => ∃ (k : Nat) (x' : SrcX) (v : SrcV), i = k ∧ k ≤ its.length ∧ k ≤ 4096 ∧ x'.p = x.p ∧ SrA w' w1.heap.size x' v ∧ v.parts.length = 2 ∧ v.list = l ∧ Grew w w', fun i _ => its.length - i.toNat, ⟨0, x, _, rfl, by omega, by omega, rfl, hS, by simp [srcNew], rfl, hg5'⟩, ?_⟩
  rintro i w20 ⟨k, x20, v, rfl, hk, hk2, hp20, hS20, hv2, hvl, hg20⟩
  refine ⟨fun hlt => ⟨fun hlt2 => ?_, fun _ => ⟨_, rfl, rfl, hg20⟩⟩, fun _ => ⟨_, rfl, rfl, hg20⟩⟩
  simp only [decide_eq_true_eq] at hlt hlt2
  have hw : IntKind.i64.wrap ((k : Int) + 1) = ((k + 1 : Nat) : Int) := by rw [IntKind.wrap_i64]; omega
  obtain ⟨db, y, rfl, hy, hyc⟩ := (hi.grew hg20).at0 (k := k) (by omega)
  obtain ⟨y1, y2⟩ := item_cells hyc
  have hyf := hf y (List.mem_of_getElem? hy)
  have hpb := itemP_bound y
  rw [← hp20, hw]
  refine ⟨⟨by omega, by omega⟩, _, y1, fun h => (by cases h), fun _ n23 h23 => ⟨⟨by omega, by omega⟩, _, _, y2, fun w27 hg27 => ?_⟩⟩
  have hip : IntKind.i64.wrap n23 = itemP y := by rw [h23]; rfl
  rw [hip]
  clear h23 hip y1 y2 hyc
  obtain ⟨q, hq⟩ := getP_of (v := v) (p := itemP y) (by omega) (by omega)
  obtain ⟨hp0, hp1, hpq⟩ := getP_some hq
  have hql := hS20.fits.logs q (List.mem_of_getElem? hpq)
  have hlenv : v.len (itemP y) = q.1.length := by unfold SrcV.len; rw [hq]
  have hS27 := hS20.grew hg27
  have hg27' := hg20.trans hg27
  refine (SLen_ok hS27).use fun u w28 ⟨hv, hw'⟩ => ?_
  subst hv; subst hw'
  refine ⟨_, rfl, (SKeys_ok hS27).use fun u w32 ⟨a34, l34, c34, hv, ho32, hg32⟩ => ?_⟩
  subst hv
  have hl34 : l34 = v.keys.length := by rw [ho32.len, sortL_len]
  subst hl34
  have hS32 := hS27.grew hg32
  have hg32' := hg27'.trans hg32
  have hkl := hS20.fits.keys.2.1
  refine ⟨_, _, _, rfl, (OKey_ok (hr.grew hg32') hl hyf.2).use fun u w36 ⟨hv, hg36⟩ => ?_⟩
  subst hv
  have hS36 := hS32.grew hg36
  have hg36' := hg32'.trans hg36
  have ho36 := ho32.grew hg36
  refine ⟨_, _, rfl, fun b42 i w' => ∃ j : Nat, i = j ∧ j ≤ v.keys.length ∧ (b42 = true ↔ (keyOfB l y.r).1 ∈ (sortL v.keys).take j) ∧ w' = w36, fun _ i _ => v.keys.length - i.toNat, ⟨0, rfl, Nat.zero_le _, by simp, rfl⟩, ?_⟩
  rintro b42 i w44 ⟨j, rfl, hj, hb42, rfl⟩
  have hwj : IntKind.i64.wrap ((j : Int) + 1) = ((j + 1 : Nat) : Int) := by rw [IntKind.wrap_i64]; omega
  refine ⟨fun hjl => ?_, fun hjl => ?_⟩
  · simp only [decide_eq_true_eq] at hjl
    obtain ⟨da, z, hda, hz, hzc⟩ := ho36.reads.at0 (k := j) (by omega)
    have hms : v.keys.length - (((j + 1 : Nat) : Int)).toNat < v.keys.length - ((j : Int)).toNat := by omega
    rw [hwj]
    refine ⟨fun h => ⟨⟨j + 1, rfl, by omega, ?_, rfl⟩, hms⟩, fun h => ?_⟩
    · rw [take_snoc hz, List.mem_append, ← hb42]; simp [h]
    · rw [hda]
      refine ⟨⟨by omega, by omega⟩, z, by simpa [Enc.int, CellsAt, Addr.add_zero'] using hzc, ⟨j + 1, rfl, by omega, ?_, rfl⟩, hms⟩
      rw [take_snoc hz, List.mem_append, ← hb42, h, List.mem_singleton, beq_iff_eq]
      constructor
      · intro h; exact .inr h.symm
      · rintro (h | h)
        · cases h
        · exact h.symm
  simp only [decide_eq_false_iff_not] at hjl
  rw [List.take_of_length_le (by rw [sortL_len]; omega), sortL_mem] at hb42
  obtain ⟨hwant, hsame, hnext⟩ := produce_want (r := y.r) hq hS20.fits
  rw [hvl] at hnext
  have hwd : wantV v (itemP y) y.r = if v.len (itemP y) = 256 then 61 else if (keyOfB l y.r).2 = true ∧ (keyOfB l y.r).1 ∉ v.keys ∧ v.keys.length = 64 then 62 else 0 := by unfold wantV; rw [hvl]
  refine ⟨fun z w' => z = wantV v (itemP y) y.r ∧ w' = w44, ⟨fun h => ⟨?_, rfl⟩, fun h => ⟨fun h2 => ⟨fun h3 => ⟨fun h4 => ⟨?_, rfl⟩, fun h4 => ⟨?_, rfl⟩⟩, fun h3 => ⟨?_, rfl⟩⟩, fun h2 => ⟨?_, rfl⟩⟩⟩, ?_⟩
  · simp only [beq_iff_eq] at h; rw [hwd, if_pos h]
  · simp only [beq_iff_eq, beq_eq_false_iff_ne, ne_eq, Bool.not_eq_true'] at h h4 h3
    rw [hwd, if_neg h, if_pos ⟨h2, fun hh => (by rw [hb42.2 hh] at h3; cases h3), by omega⟩]
  · simp only [beq_iff_eq, beq_eq_false_iff_ne, ne_eq, Bool.not_eq_true'] at h h4 h3
    rw [hwd, if_neg h, if_neg (fun hh => h4 (by omega))]
  · simp only [beq_eq_false_iff_ne, ne_eq, Bool.not_eq_false'] at h h3
    rw [hwd, if_neg h, if_neg (fun hh => hh.2.1 (hb42.1 h3))]
  · simp only [beq_eq_false_iff_ne, ne_eq] at h
    rw [hwd, if_neg h, if_neg (fun hh => by rw [h2] at hh; simp at hh)]
  rintro z w49 ⟨rfl, rfl⟩
  have q49 : w1.heap.size ≤ w49.heap.size := by have := hS36.foot (.inl rfl); omega
  refine (Produce_ok (p := itemP y) (r := y.r) hS36 hyf.2 q49).use fun u w50 ⟨hv, hM⟩ => ?_
  subst hv
  have hg50 := hM.grew hS36 hg36' hB
  obtain ⟨x50, hS50, hp50, hu50, hf50⟩ := hM.out
  have ho50 := ho36.upd hu50 fun b hb hb' => by
    have h1 := (ho36.blk hb).1
    have h2 := (hS27.foot hb').2
    omega
  generalize hV : (v.produce (itemP y) y.r).1 = v' at hS50 hsame hnext
  have hfin : v'.parts.length = 2 ∧ v'.list = l := by
    have := produce_shape v (itemP y) y.r
    rw [hV] at this
    exact ⟨this.2.trans hv2, this.1.trans hvl⟩
  refine ⟨_, rfl, ?_⟩
  rw [← hp50]
  refine (SKeys_ok hS50).use fun u w54 ⟨a56, l56, c56, hv, ho54, hg54⟩ => ?_
  subst hv
  have hl56 : l56 = v'.keys.length := by rw [ho54.len, sortL_len]
  subst hl56
  have hS54 := hS50.grew hg54
  have hkl' := hS50.fits.keys.2.1
  have hg54' := hg50.trans hg54
  rw [hwant]
  refine ⟨_, _, _, rfl, fun h => (by simp at h), fun _ => ⟨fun h => ?_, fun _ => ?_⟩⟩
  · simp only [decide_eq_true_eq] at h; omega
  refine (SLen_ok hS54).use fun u w58 ⟨hv, hw'⟩ => ?_
  subst hv; subst hw'
  have hv'len : v'.len (itemP y) ≤ 256 := by
    obtain ⟨q', hq'⟩ := getP_of (v := v') (p := itemP y) (by omega) (by omega)
    have := (hS50.fits.logs q' (List.mem_of_getElem? (getP_some hq').2.2)).1
    unfold SrcV.len; rw [hq']; simp only; omega
  refine ⟨_, rfl, fun h => ?_, fun _ => ⟨fun hne => ?_, fun heq => ?_⟩⟩
  · simp only [decide_eq_true_eq] at h; omega
  · simp only [bne_iff_ne, ne_eq] at hne
    have hvv := hsame (by rw [hwant]; exact hne)
    refine (SLen_ok hS54).use fun u w62 ⟨hv, hw'⟩ => ?_
    subst hv; subst hw'
    refine ⟨_, rfl, fun h => (by rw [hvv] at h; simp at h), fun _ => ?_⟩
    have hrd : Reads w62 (Enc.int .u64) (a56, v'.keys.length, c56) (sortL v.keys) := by rw [← hvv]; exact ho54.reads
    refine (lkeys_ok (ho50.grew hg54).reads hrd (by rw [sortL_len]; omega)).use fun u w66 ⟨hv, hg66⟩ => ?_
    subst hv
    exact ⟨_, rfl, fun h => (by cases h), fun _ => ⟨⟨k + 1, x50, v', rfl, by omega, by omega, by rw [hp50, hp20], hS54.grew hg66, hfin.1, hfin.2, hg54'.trans hg66⟩, by show its.length - (((k + 1 : Nat) : Int)).toNat < its.length - ((k : Int)).toNat; omega⟩⟩
  · simp only [bne_eq_false_iff_eq] at heq
    obtain ⟨hgp, hks⟩ := hnext (by rw [hwant]; exact heq)
    have hlen' : v'.len (itemP y) = q.1.length + 1 := by unfold SrcV.len; rw [hgp]; simp
    have hlog' : v'.log (itemP y) = q.1 ++ [y.r] := by unfold SrcV.log; rw [hgp]
    have hlt256 : q.1.length < 256 := by rw [hlen'] at hv'len; omega
    refine (SLen_ok hS54).use fun u w70 ⟨hv, hw'⟩ => ?_
    subst hv; subst hw'
    have hwl : IntKind.i64.wrap (v.len (itemP y) + 1) = v'.len (itemP y) := by rw [hlenv, hlen', IntKind.wrap_i64]; omega
    rw [hwl]
    have hklen : (((v'.keys.length : Nat) : Int) == ((v.keys.length : Nat) : Int)) = decide (¬ ((keyOfB l y.r).2 = true ∧ (keyOfB l y.r).1 ∉ v.keys)) := by
      rw [hks]
      rw [Bool.eq_iff_iff, beq_iff_eq, decide_eq_true_eq]
      split
      · rename_i h; simp only [List.length_append, List.length_cons, List.length_nil]; constructor
        · intro h'; omega
        · intro h'; exact absurd h h'
      · rename_i h; exact ⟨fun _ => h, fun _ => rfl⟩
    refine ⟨_, rfl, fun h => (by simp at h), fun _ => ⟨fun hbt => ⟨fun h => ?_, fun _ => ?_⟩, fun hbf => ⟨fun h => ?_, fun _ => ?_⟩⟩⟩
    rotate_left 2
    · exfalso
      have hnk : (keyOfB l y.r).1 ∉ v.keys := fun hh => by rw [hb42.2 hh] at hbf; cases hbf
      rw [hklen] at h
      cases hkk : (keyOfB l y.r).2
      · rw [hkk] at h; simp at h
      · rw [hkk] at h; simp [hnk] at h
    rotate_left 1
    · exfalso
      rw [hklen] at h
      simp only [Bool.not_eq_true', beq_eq_false_iff_ne, ne_eq] at h
      apply h
      rw [decide_eq_true_eq]
      exact fun hh => hh.2 (hb42.1 hbt)
    all_goals
        refine (Log_ok hS54).use fun u w74 ⟨a76, l76, c76, hv, ho74, hg74⟩ => ?_
        subst hv
        rw [hlog'] at ho74
        have hl76 : l76 = q.1.length + 1 := by rw [ho74.len]; simp
        subst hl76
        refine ⟨_, _, _, rfl, fun w78 hg78 => ⟨⟨by omega, by omega⟩, fun b79 w80 hal80 => ?_⟩⟩
        have hx80 := Own.alloc (E := Enc.rcd) (l := [y.r]) hal80 (Nat.le_refl _) rfl (by simp [maxLen])
        have hg80 := hg78.trans hal80.grew
        have ht : (v.len (itemP y)).toNat = q.1.length := by omega
        rw [ht]
        have hfr := (ho74.grew hg80).reads.from (i := q.1.length) (by omega)
        rw [List.drop_left' rfl] at hfr
        refine (records_ok hfr hx80.reads (by simp)).use fun u w81 ⟨hv, hg81⟩ => ?_
        subst hv
        exact ⟨_, rfl, fun h => (by cases h), fun _ => ⟨⟨k + 1, x50, v', rfl, by omega, by omega, by rw [hp50, hp20], ((hS54.grew hg74).grew hg80).grew hg81, hfin.1, hfin.2, hg54'.trans (hg74.trans (hg80.trans hg81))⟩, by show its.length - (((k + 1 : Nat) : Int)).toNat < its.length - ((k : Int)).toNat; omega⟩⟩

open Go.ChangeShapes Go.WideShapes Go.ChangeAt Go.RowKit
set_option maxRecDepth 100000 in
theorem sourceRefuses_lifted (os : Os) (started : os.Started) (H : Type) (enc : TypeId × Value → H) :
    ReturnsInHanded {} Try.checked os 3 .any (Rows.sourceRefusesSpec.pre6 enc Try.prog Try.f3 Rows.sourceRefusesRow.domain false) (Rows.sourceRefusesSpec.post enc Try.prog Try.f3 false true false false) := by
  refine returnsInHanded_of_change_sized (C := Try.checked) (by kernel_rfl) started (by kernel_rfl) Try.func3
    (ChangeSpec.witness6 (enc := enc) (C := Try.checked) false ⟨#[], #[.slice none 0 0, .slice none 0 0], []⟩ 8 (by kernel_rfl) (by kernel_rfl) (by kernel_rfl) (by kernel_rfl)) ?_
  intro W base args ds gs before hval0 hW hcnd hsz0 _
  have hval : ∀ (j : Nat) t v, Try.f3.params[j]? = some t → args[j]? = some v → Value.okWide Try.prog W .any base t v := hval0
  have hW' := hW
  obtain ⟨p, q, hA0, hV, rfl, hfz, hnd⟩ := hW
  have hA : DataW.TrodAll enc Try.prog W 0 (fun _ => true) true Try.f3.params.toList args.toList ds p := hA0
  have hsz : (DataW.weightsEach Try.prog (Try.f3.params.toList ++ _) (ds ++ gs)).all (· ≤ reachBytes) = true := hsz0
  rw [show Try.f3.params = #[22, 23] from by kernel_rfl] at hA hval hsz
  have hA1 := hA
  obtain ⟨v0, vs0, d0, ds0, p0, q0, hargs, rfl, rfl, h0, r0⟩ := trodAll_cons hA
  obtain ⟨v1, vs1, d1, ds1, p1, q1, rfl, rfl, rfl, h1, r1⟩ := trodAll_cons r0
  obtain ⟨rfl, rfl, rfl⟩ := trodAll_nil r1
  obtain rfl : args = #[v0, v1] := by cases args; simp_all
  obtain ⟨a0, n0, c0, l0, rfl, hr0, hcl0, hn0, hb0⟩ := open_sub (P := Try.prog) (t := 22) (e := 51) (arg_sub (e := 51) (j := 0) hsz rfl rfl (by kernel_rfl) (hval 0 22 v0 rfl rfl) h0) (by kernel_rfl) op3_kinds (by kernel_rfl) (B := 24) (by kernel_rfl) (E := Enc.op3) rfl op3_of
  obtain ⟨a1, n1, c1, l1, rfl, hr1, hcl1, hn1, hb1⟩ := open_sub (P := Try.prog) (t := 23) (e := 36) (arg_sub (e := 36) (j := 1) hsz rfl rfl (by kernel_rfl) (hval 1 23 v1 rfl rfl) h1) (by kernel_rfl) item_kinds (by kernel_rfl) (B := 24) (by kernel_rfl) (E := Enc.item) rfl item_of
  clear hA0 hA1 hval0 hsz0
  refine (CallsW.calls ⟨_, Try.func3, by kernel_rfl, by kernel_rfl⟩ (SourceRefuses_ok hr0 hcl0 hn0 hb0 hr1 hcl1 hn1 hb1)).mono fun e W' ⟨w', hh, hk, v, he, hv, hg⟩ => ?_
  subst he; subst hv
  exact ⟨_, rfl, post_true (tb := 4) (by kernel_rfl) rfl (by kernel_rfl) (by kernel_rfl) ⟨rfl, rfl, rfl⟩ (by decide +kernel) hW' (below_of hg hh hk)⟩

theorem sourceRefuses_holds : Rows.SourceRefusesSaid :=
  OpenClaim.holds_of_wide 3 Try.f3 rfl rfl rfl rfl rfl rfl rfl ⟨rfl, rfl, rfl, rfl, rfl⟩ rfl rfl rfl rfl rfl (by kernel_rfl) Try.func3 (by kernel_rfl)
    (of_decide_eq_true (by kernel_rfl)) (by unfold Func.isWrapper; first | (rw [if_pos (by decide +kernel)]; kernel_rfl) | (rw [if_neg (by decide +kernel)]; exact ⟨rfl, rfl⟩))
    (fun os started H enc _ => sourceRefuses_lifted os started H enc)
end Go.Proofs.Ytifhpmmdfjmppaa
