/- FoldOrder: what it computes. Conditions: none. -/
import Derived.Test.YtoljpkdokpinhaaProg
import Derived.Test.YtoljpkdokpinhaaFoldJ
import Derived.Test.YtoljpkdokpinhaaSxVf
import Derived.Test.YtoljpkdokpinhaaSxX
import Derived.Test.YtoljpkdokpinhaaSxQ
import Derived.Test.YtoljpkdokpinhaaSxT
import Derived.Deep.CondSized
import Derived.Test.YtoljpkdokpinhaaRows
namespace Go.Proofs.Ytoljpkdokpinhaa
open Go.Sx
set_option maxRecDepth 100000
set_option linter.unusedVariables false
set_option linter.unusedSimpArgs false
/- reprise/repriselaw05.FoldOrder -/
def sx6 (d_0 : Option Addr) (d_0_n d_0_c : Nat) (d_1 : Int) (d_2 : Option Addr) (d_2_n d_2_c : Nat) (d_3 : Int) (R : Ending → World → Prop) (w : World) : Prop :=
  ∀ w1, Grew w w1 → CallsW Try.prog 10 [] w1 (RetR R fun u3 w2 => ∃ (b4 : Bool), u3 = .bool b4 ∧ (((!b4) = true → R (.returned (.bool false)) w2) ∧ ((!b4) = false → CallsW Try.prog 21 [.agg #[.slice d_0 d_0_n d_0_c, .int
    .i64 d_1, .slice d_2 d_2_n d_2_c, .int .i64 d_3]] w2 (RetR R fun u7 w6 => ∃ (b8 : Bool), u7 = .bool b8 ∧ (((!b8) = true → R (.returned (.bool true)) w6) ∧ ((!b8) = false → CallsW Try.prog 23 [.agg #[.slice d_0 d_0_n
    d_0_c, .int .i64 d_1, .slice d_2 d_2_n d_2_c, .int .i64 d_3]] w6 (RetR R fun u11 w10 => ∃ (n12 : Int), u11 = .int .i64 n12 ∧ SemW Try.prog (Instr.makeSlice 41 (.int .i64 0) (.int .i64 ((d_2_n : Nat) : Int))) (fun u15
    w14 => ∃ (a16 : Option Addr) (l16 c16 : Nat), u15 = .slice a16 l16 c16 ∧ SemW Try.prog (Instr.makeSlice 41 (.int .i64 0) (.int .i64 ((d_2_n : Nat) : Int))) (fun u18 w17 => ∃ (a19 : Option Addr) (l19 c19 : Nat), u18 =
    .slice a19 l19 c19 ∧ ∃ (I20 : Option Addr → Nat → Nat → Option Addr → Nat → Nat → Int → World → Prop) (m20 : Option Addr → Nat → Nat → Option Addr → Nat → Nat → Int → World → Nat), I20 a16 l16 c16 a19 l19 c19 0 w17 ∧
    ∀ (a21 : Option Addr) (l21 c21 : Nat) (a22 : Option Addr) (l22 c22 : Nat) (n23 : Int) (w24 : World), I20 a21 l21 c21 a22 l22 c22 n23 w24 → (((decide (n23 < ((d_2_n : Nat) : Int))) = true → ∀ n25 : Int, n25 =
    IntKind.i64.wrap (((d_2_n : Nat) : Int) - 1) → ∀ n26 : Int, n26 = IntKind.i64.wrap (n25 - n23) → withSome d_2 (fun d27 => (0 ≤ n26 ∧ n26 < (d_2_n : Nat)) ∧ ∃ (n28 : Int) (x29 : Nat), CellsAt w24 (Addr.add d27
    (n26.toNat * 2)) 0 [.int .u64 n28, .float .f64 x29] ∧ ∀ (b30 : Nat) (w31 : World), Alloc w24 w31 b30 (.cells #[.int .u64 n28, .float .f64 x29] 52) → SemW Try.prog (Builtin.append_ #[41, 41] 41 #[.slice a21 l21 c21,
    .slice (some ⟨b30, 0, none⟩) 1 1]) (fun u33 w32 => ∃ (a34 : Option Addr) (l34 c34 : Nat), u33 = .slice a34 l34 c34 ∧ ∀ w35, Grew w32 w35 → ∀ n36 : Int, n36 = IntKind.i64.wrap (n12 + n23) → ((((d_2_n : Nat) : Int) = 0
    → R (.panicked (divPanic Try.prog)) w35) ∧ (((d_2_n : Nat) : Int) ≠ 0 → ∀ n37 : Int, n37 = Int.tmod n36 ((d_2_n : Nat) : Int) → SameB w35 w35 [] ∧ withSome d_2 (fun d38 => (0 ≤ n37 ∧ n37 < (d_2_n : Nat)) ∧ ∃ (n39 :
    Int) (x40 : Nat), CellsAt w35 (Addr.add d38 (n37.toNat * 2)) 0 [.int .u64 n39, .float .f64 x40] ∧ ∀ (b41 : Nat) (w42 : World), Alloc w35 w42 b41 (.cells #[.int .u64 n39, .float .f64 x40] 52) → SemW Try.prog
    (Builtin.append_ #[41, 41] 41 #[.slice a22 l22 c22, .slice (some ⟨b41, 0, none⟩) 1 1]) (fun u44 w43 => ∃ (a45 : Option Addr) (l45 c45 : Nat), u44 = .slice a45 l45 c45 ∧ (I20 a34 l34 c34 a45 l45 c45 (IntKind.i64.wrap
    (n23 + 1)) w43 ∧ m20 a34 l34 c34 a45 l45 c45 (IntKind.i64.wrap (n23 + 1)) w43 < m20 a21 l21 c21 a22 l22 c22 n23 w24)) w42)))) w31)) ∧ ((decide (n23 < ((d_2_n : Nat) : Int))) = false → CallsW Try.prog 24 [.agg #[.slice
    d_0 d_0_n d_0_c, .int .i64 d_1, .slice d_2 d_2_n d_2_c, .int .i64 d_3], .slice d_2 d_2_n d_2_c] w24 (RetR R fun u47 w46 => ∃ (a48 : Option Addr) (l48 c48 : Nat) (n49 : Int) (b50 : Bool), u47 = .tuple #[.slice a48 l48
    c48, .int .i64 n49, .bool b50] ∧ CallsW Try.prog 24 [.agg #[.slice d_0 d_0_n d_0_c, .int .i64 d_1, .slice d_2 d_2_n d_2_c, .int .i64 d_3], .slice a21 l21 c21] w46 (RetR R fun u53 w52 => ∃ (a54 : Option Addr) (l54 c54
    : Nat) (n55 : Int) (b56 : Bool), u53 = .tuple #[.slice a54 l54 c54, .int .i64 n55, .bool b56] ∧ CallsW Try.prog 24 [.agg #[.slice d_0 d_0_n d_0_c, .int .i64 d_1, .slice d_2 d_2_n d_2_c, .int .i64 d_3], .slice a22 l22
    c22] w52 (RetR R fun u59 w58 => ∃ (a60 : Option Addr) (l60 c60 : Nat) (n61 : Int) (b62 : Bool), u59 = .tuple #[.slice a60 l60 c60, .int .i64 n61, .bool b62] ∧ ((b50 = true → ((b56 = true → ((b62 = true → CallsW
    Try.prog 15 [.slice a48 l48 c48, .slice a54 l54 c54] w58 (RetR R fun u65 w64 => ∃ (b66 : Bool), u65 = .bool b66 ∧ ((b66 = true → CallsW Try.prog 15 [.slice a48 l48 c48, .slice a60 l60 c60] w64 (RetR R fun u69 w68 => ∃
    (b70 : Bool), u69 = .bool b70 ∧ ((b70 = true → (((n49 == n55) = true → R (.returned (.bool (n49 == n61))) w68) ∧ ((n49 == n55) = false → R (.returned (.bool false)) w68))) ∧ (b70 = false → R (.returned (.bool false))
    w68)))) ∧ (b66 = false → R (.returned (.bool false)) w64)))) ∧ (b62 = false → R (.returned (.bool false)) w58))) ∧ (b56 = false → R (.returned (.bool false)) w58))) ∧ (b50 = false → R (.returned (.bool false))
    w58)))))))) w14) w10)))))))
theorem sx6.ok {d_0 : Option Addr} {d_0_n d_0_c : Nat} {d_1 : Int} {d_2 : Option Addr} {d_2_n d_2_c : Nat} {d_3 : Int} {R : Ending → World → Prop} {w : World} (h : sx6 d_0 d_0_n d_0_c d_1 d_2 d_2_n d_2_c d_3 R w) : CallsW Try.prog 6 [.agg #[.slice d_0 d_0_n d_0_c, .int .i64 d_1, .slice d_2 d_2_n d_2_c, .int .i64 d_3]] w R :=
  callsW_of mix Try.func6 (by kernel_rfl) (by kernel_rfl) (Eq.mpr (by kernel_rfl : denFn Try.prog { locals := [1], sem := [28, 30, 46, 58], named := [40, 42, 52, 54], draws := [(13, { order := (.cons 0 (.cons 1 (.cons 2 (.cons 3 (.cons 4 (.cons 5 (.cons 6 (.cons 7 (.cons 8 (.cons 9 (.cons 10 (.cons 11 (.cons 12 .nil))))))))))))), bars := [10, 11] })], loops := [(10, { slots := [(5, .slice), (6, .slice), (7, .int .i64)], cells := [] })] } Try.f6 [.agg #[.slice d_0 d_0_n d_0_c, .int .i64 d_1, .slice d_2 d_2_n d_2_c, .int .i64 d_3]] R w = sx6 d_0 d_0_n d_0_c d_1 d_2 d_2_n d_2_c d_3 R w) h)


theorem turn_at {α : Type} {rs : List α} {k i : Nat} (hi : i < rs.length) (hk : k ≤ rs.length) : (rs.drop k ++ rs.take k)[i]? = rs[(k + i) % rs.length]? := by
  by_cases h : i < rs.length - k
  · rw [List.getElem?_append_left (by rw [List.length_drop]; exact h), List.getElem?_drop, Nat.mod_eq_of_lt (by omega)]
  · rw [List.getElem?_append_right (by rw [List.length_drop]; omega), List.length_drop, List.getElem?_take, if_pos (by omega)]
    congr 1
    rw [Nat.mod_eq_sub_mod (by omega), Nat.mod_eq_of_lt (by omega)]; omega
theorem elRecF : ElemOk Try.prog 41 52 Enc.rcd.sz 16 := ElemOk.mk' (z := .agg #[.int .u64 0, .float .f64 0]) (by kernel_rfl) (by kernel_rfl) (by kernel_rfl)
theorem FoldOrder_ok {j : JobS} {w : World} (hj : JobOk 1048576 w j) :
    CallsW Try.prog 6 [jobv j.o.1 j.o.2.1 j.o.2.2 j.kind j.r.1 j.r.2.1 j.r.2.2 j.at_] w (Rets fun v w' => v = .bool true ∧ Grew w w') := by
  obtain ⟨⟨oa, on, oc⟩, kind, ⟨ra, rn, rc⟩, at_⟩ := j
  obtain ⟨l, rs, hJ, hl, hrl⟩ := hj
  simp only at hJ ⊢
  refine sx6.ok ?_
  unfold sx6
  have hn : rn = rs.length := hJ.recs.2.1
  subst hn
  have nb : ∀ {x y : World}, SameB x y [] := by intro x y; simp [SameB]
  intro w1 hg1
  refine awakeF_ok.use fun v w2 ⟨hv, hg2⟩ => ?_
  subst hv
  have hg2 := hg1.trans hg2
  refine ⟨_, rfl, fun h => (by cases h), fun _ => (right_ok (hJ.grew hg2).ops).use fun v w6 ⟨hv, hg6⟩ => ?_⟩
  subst hv
  have hg6 := hg2.trans hg6
  cases hc : checkB l
  · exact ⟨_, rfl, fun _ => ⟨_, rfl, rfl, hg6⟩, fun h => (by simp at h)⟩
  cases hk : knownB kind
  · exact ⟨_, rfl, fun _ => ⟨_, rfl, rfl, hg6⟩, fun h => (by simp at h)⟩
  refine ⟨_, rfl, fun h => (by simp at h), fun _ => (place_okJ (by omega)).use fun v w10 ⟨hv, hpl, hg10⟩ => ?_⟩
  subst hv
  have hg10 := hg6.trans hg10
  refine ⟨_, rfl, ?_⟩
  generalize placeOf at_ rs.length = k at hpl
  have mk : ∀ {w1 : World} {K : Value → World → Prop}, (∀ b w', Own w' w1.heap.size 52 Enc.rcd (some ⟨b, 0, none⟩) 0 rs.length [] → Grew w1 w' → K (.slice (some ⟨b, 0, none⟩) 0 rs.length) w') → SemW Try.prog (Instr.makeSlice 41 (.int .i64 0) (.int .i64 (rs.length : Int))) K w1 := fun hK =>
    make_room (e := 52) (bytes := 16) (E := Enc.rcd) (by kernel_rfl) (z := .agg #[.int .u64 0, .float .f64 0]) (by kernel_rfl) (by omega) (by simp only [maxLen]; omega) hK
  refine mk fun b14 w14 ho14 hg14 => ⟨_, _, _, rfl, mk fun b17 w17 ho17 hg17 => ⟨_, _, _, rfl, ?_⟩⟩
  have hg17' := hg10.trans (hg14.trans hg17)
  have fR : ∀ x ∈ rs, x.Fits := hJ.fr
  have dis0 : ∀ b, Blk (some (⟨b14, 0, none⟩ : Addr)) b → ¬ Blk (some (⟨b17, 0, none⟩ : Addr)) b := fun b h1 h2 => by
    have := (ho14.blk h1).2; have := (ho17.blk h2).1; omega
  refine ⟨fun a21 l21 c21 a22 l22 c22 i w' => ∃ q : Nat, i = q ∧ q ≤ rs.length ∧ Own w' w.heap.size 52 Enc.rcd a21 l21 c21 (rs.reverse.take q) ∧ Own w' w.heap.size 52 Enc.rcd a22 l22 c22 ((rs.drop k ++ rs.take k).take q) ∧ (∀ b, Blk a21 b → ¬ Blk a22 b) ∧ Grew w w', fun _ _ _ _ _ _ i _ => rs.length - i.toNat, ⟨0, rfl, Nat.zero_le _, by simpa using (ho14.base hg10.size).grew hg17, by simpa using ho17.base (hg10.trans hg14).size, dis0, hg17'⟩, ?_⟩
  rintro a21 l21 c21 a22 l22 c22 i w24 ⟨q, rfl, hq, ho21, ho22, hdis, hg24⟩
  refine ⟨fun hlt n25 h25 n26 h26 => ?_, fun hge => ?_⟩
  · simp only [decide_eq_true_eq] at hlt
    have e26 : n26 = ((rs.length - 1 - q : Nat) : Int) := by
      have e25 : n25 = (rs.length : Int) - 1 := by rw [h25, IntKind.wrap_i64]; omega
      rw [h26, e25, IntKind.wrap_i64]; omega
    subst e26
    have hw : IntKind.i64.wrap ((q : Int) + 1) = ((q + 1 : Nat) : Int) := by rw [IntKind.wrap_i64]; omega
    obtain ⟨d, x, hd, hx, hxc⟩ := (hJ.recs.grew hg24).at0 (k := rs.length - 1 - q) (by omega)
    have hrev : rs.reverse[q]? = some x := by rw [List.getElem?_reverse (by omega)]; exact hx
    have hxcell : CellsAt w24 (Addr.add d (((rs.length - 1 - q : Nat) : Int).toNat * 2)) 0 [.int .u64 x.key, .float .f64 x.val] := hxc
    rw [hd, withSome]
    refine ⟨⟨by omega, by omega⟩, _, _, hxcell, fun b30 w31 hal31 => ?_⟩
    have hlq : (rs.reverse.take q).length ≤ 1048576 := by simp; omega
    refine append_new (l2 := [x]) elRecF ho21 hal31 rfl rfl hg24.size (by simp only [maxLen, List.length_singleton]; omega) (by simp only [List.length_singleton]; omega) ?_
    rintro v32 w32 ⟨a34, l34, c34, rfl, ho34, hu34, hb34⟩
    rw [← take_snoc hrev] at ho34
    have ho22' := ho22.upd hu34 fun b hb h => hdis b h hb
    refine ⟨_, _, _, rfl, fun w35 hg35 n36 h36 => ⟨fun h => (by omega), fun _ n37 h37 => ⟨nb, ?_⟩⟩⟩
    have hg32 : Grew w w32 := hg24.then_own hu34 fun b hb => (ho21.blk hb).1
    have e36 : n36 = ((k + q : Nat) : Int) := by rw [h36, IntKind.wrap_i64]; omega
    have e37 : n37 = (((k + q) % rs.length : Nat) : Int) := by rw [h37, e36, Int.tmod_eq_emod_of_nonneg (by omega)]; rfl
    subst e37
    have hmod : (k + q) % rs.length < rs.length := Nat.mod_lt _ (by omega)
    obtain ⟨d2, y, hd2, hy, hyc⟩ := (hJ.recs.grew (hg32.trans hg35)).at0 (k := (k + q) % rs.length) hmod
    have htl : (rs.drop k ++ rs.take k)[q]? = some y := by rw [turn_at (by omega) hpl]; exact hy
    have hycell : CellsAt w35 (Addr.add d2 ((((k + q) % rs.length : Nat) : Int).toNat * 2)) 0 [.int .u64 y.key, .float .f64 y.val] := hyc
    rw [hd] at hd2; cases hd2
    rw [withSome]
    refine ⟨⟨by omega, by omega⟩, _, _, hycell, fun b41 w42 hal42 => ?_⟩
    have ho22'' := ho22'.grew hg35
    have hlq2 : ((rs.drop k ++ rs.take k).take q).length ≤ 1048576 := by simp; omega
    refine append_new (l2 := [y]) elRecF ho22'' hal42 rfl rfl (hg32.trans hg35).size (by simp only [maxLen, List.length_singleton]; omega) (by simp only [List.length_singleton]; omega) ?_
    rintro v43 w43 ⟨a45, l45, c45, rfl, ho45, hu45, hb45⟩
    rw [← take_snoc htl] at ho45
    have hdis34 : ∀ b, Blk a34 b → ¬ Blk a22 b := fun b h1 h2 => by
      rcases hb34 b h1 with h | h
      · exact hdis b h h2
      · have := (ho22.blk h2).2; omega
    have ho34' := (ho34.grew hg35).upd hu45 fun b hb h => hdis34 b hb h
    rw [hw]
    refine ⟨_, _, _, rfl, ⟨q + 1, rfl, by omega, ho34', ho45, fun b h1 h2 => ?_, (hg32.trans hg35).then_own hu45 fun b hb => (ho22''.blk hb).1⟩, by show rs.length - (((q + 1 : Nat) : Int)).toNat < rs.length - ((q : Int)).toNat; omega⟩
    rcases hb45 b h2 with h | h
    · exact hdis34 b h1 h
    · have := ((ho34.grew hg35).blk h1).2; omega
  · simp only [decide_eq_false_iff_not] at hge
    have hqn : q = rs.length := by omega
    subst hqn
    rw [List.take_of_length_le (by simp)] at ho21
    rw [List.take_of_length_le (by simp; omega)] at ho22
    have P1 : rs.reverse.Perm rs := List.reverse_perm rs
    have P2 : (rs.drop k ++ rs.take k).Perm rs := by
      have h := List.perm_append_comm (l₁ := rs.drop k) (l₂ := rs.take k)
      rwa [List.take_append_drop] at h
    have f1 : ∀ x ∈ rs.reverse, x.Fits := fun x hx => fR x (P1.mem_iff.1 hx)
    have f2 : ∀ x ∈ rs.drop k ++ rs.take k, x.Fits := fun x hx => fR x (P2.mem_iff.1 hx)
    have n1 := P1.length_eq
    have n2 := P2.length_eq
    have tl : ∀ rs' : List RecV, rs'.length = rs.length → (tableT (batchAll l kind rs').1).length ≤ maxLen := fun rs' h => by
      rw [tableT_lenV, batch_same]
      have := batch_len l kind rs'
      simp only [maxLen]; omega
    refine (table_okJ (oa := oa) (on := on) (oc := oc) (ra := ra) (rn := rs.length) (rc := rc) (at_ := at_) hc hk (hJ.grew hg24).ops hJ.fo (hJ.grew hg24).recs fR (by omega) (table_sound hk hJ.fo fR) (tl rs rfl)).use fun u w46 ⟨a48, l48, c48, hv, ho48, hg46⟩ => ?_
    subst hv
    have hg46' := hg24.trans hg46
    refine ⟨_, _, _, _, _, rfl, (table_okJ (oa := oa) (on := on) (oc := oc) (ra := ra) (rn := rs.length) (rc := rc) (at_ := at_) hc hk (hJ.grew hg46').ops hJ.fo (ho21.grew hg46).reads f1 (by omega) (table_sound hk hJ.fo f1) (tl _ n1)).use fun u w52 ⟨a54, l54, c54, hv, ho54, hg52⟩ => ?_⟩
    subst hv
    have hg52' := hg46'.trans hg52
    refine ⟨_, _, _, _, _, rfl, (table_okJ (oa := oa) (on := on) (oc := oc) (ra := ra) (rn := rs.length) (rc := rc) (at_ := at_) hc hk (hJ.grew hg52').ops hJ.fo ((ho22.grew hg46).grew hg52).reads f2 (by omega) (table_sound hk hJ.fo f2) (tl _ n2)).use fun u w58 ⟨a60, l60, c60, hv, ho60, hg58⟩ => ?_⟩
    subst hv
    have hg58' := hg52'.trans hg58
    have t1 : tableT (batchAll l kind rs.reverse).1 = tableT (batchAll l kind rs).1 := table_eq hk hJ.fo f1 fR (kept_perm P1)
    have t2 : tableT (batchAll l kind (rs.drop k ++ rs.take k)).1 = tableT (batchAll l kind rs).1 := table_eq hk hJ.fo f2 fR (kept_perm P2)
    have tr : ∀ rs' : List RecV, rs'.length = rs.length → (batchAll l kind rs').2 = (trapN l rs' : Int) := fun rs' h => by
      have := bAll_traps l kind rs' ([], 0) (by simp) (by simp; omega)
      exact this.trans (Int.zero_add _)
    rw [t1] at ho54
    rw [t2] at ho60
    rw [tr rs rfl, tr _ n1, tr _ n2, trap_perm P1, trap_perm P2]
    have htl := tl rs rfl
    simp only [maxLen] at htl
    have hsz : (tableT (batchAll l kind rs).1).length ≤ 9223372036854775806 := by
      rw [tableT_lenV, batch_same]
      have := batch_len l kind rs
      omega
    refine ⟨_, _, _, _, _, rfl, fun _ => ⟨fun _ => ⟨fun _ => ?_, fun h => (by cases h)⟩, fun h => (by cases h)⟩, fun h => (by cases h)⟩
    refine (same_ok ((ho48.grew hg52).grew hg58).reads (ho54.grew hg58).reads hsz).use fun u w64 ⟨hv, hg64⟩ => ?_
    subst hv
    refine ⟨_, rfl, fun _ => ?_, fun h => (by simp at h)⟩
    refine (same_ok (((ho48.grew hg52).grew hg58).grew hg64).reads (ho60.grew hg64).reads hsz).use fun u w68 ⟨hv, hg68⟩ => ?_
    subst hv
    exact ⟨_, rfl, fun _ => ⟨fun _ => ⟨_, rfl, by simp, hg58'.trans (hg64.trans hg68)⟩, fun h => (by simp at h)⟩, fun h => (by simp at h)⟩

section
variable {H : Type}
theorem upto_pos (d : DataW H) : 1 ≤ Rows.uptoBulk d := by
  cases d with
  | lit l => cases l <;> simp [Rows.uptoBulk]
  | _ => simp [Rows.uptoBulk]
theorem upto_all_len : ∀ ds : List (DataW H), ds.length ≤ Rows.uptoBulkAll ds
  | [] => by simp [Rows.uptoBulkAll]
  | d :: r => by
    have h1 := upto_pos d; have h2 := upto_all_len r
    simp only [Rows.uptoBulkAll, List.length_cons]; omega
theorem upto_mem : ∀ {ds : List (DataW H)} {j : Nat} {d : DataW H}, ds[j]? = some d → Rows.uptoBulk d ≤ Rows.uptoBulkAll ds
  | [], j, d, h => by simp at h
  | x :: r, 0, d, h => by simp at h; subst h; simp only [Rows.uptoBulkAll]; omega
  | x :: r, j + 1, d, h => by
    have := upto_mem (ds := r) (j := j) (d := d) (by simpa using h)
    simp only [Rows.uptoBulkAll]; omega
theorem upto_len {ds : List (DataW H)} {B : Nat} (h : Rows.uptoBulkAll ds ≤ B) {j : Nat} {d : DataW H} {n : Nat} (hd : ds[j]? = some d) (hs : (d = .nil ∧ n = 0) ∨ ∃ es sp, d = .slice es sp ∧ es.length = n) : n ≤ B := by
  have h1 := upto_mem hd
  rcases hs with ⟨-, rfl⟩ | ⟨es, sp, rfl, rfl⟩
  · omega
  · have h2 := upto_all_len es
    simp only [Rows.uptoBulk] at h1; omega
end
section
variable {H : Type}
theorem upto_in {ds : List (DataW H)} {d : DataW H} (h : d ∈ ds) : Rows.uptoBulk d ≤ Rows.uptoBulkAll ds := by
  obtain ⟨j, hj⟩ := List.getElem?_of_mem h
  exact upto_mem hj
def uptoBd (H : Type) : Up.Bd H := ⟨Rows.uptoBulk, 1048576, fun es sp => by have := upto_all_len es; simp only [Rows.uptoBulk]; omega, fun es sp d hd => by have := upto_in hd; simp only [Rows.uptoBulk]; omega, fun ds d hd => by have := upto_in hd; simp only [Rows.uptoBulk]; omega⟩
end
open Go.ChangeShapes Go.WideShapes Go.ChangeAt Go.RowKit
set_option maxRecDepth 100000 in
theorem foldOrder_lifted (os : Os) (started : os.Started) (H : Type) (enc : TypeId × Value → H) (F : Stop.Interp) :
    ReturnsInHanded {} Try.checked os 6 .any ((Rows.OpenSpec.upto Rows.foldOrderSpec).pre6 enc Try.prog Try.f6 Rows.foldOrderUptoRow.domain false) (((Rows.OpenSpec.upto Rows.foldOrderSpec).at F).post enc Try.prog Try.f6 false true false false) := by
  refine returnsInHanded_of_cond_sized (s := Rows.OpenSpec.upto Rows.foldOrderSpec) (k := Rows.uptoSmall) (by rfl) (C := Try.checked) (by kernel_rfl) started (by kernel_rfl) Try.func6
    (OpenSpec.witness (s := Rows.OpenSpec.upto Rows.foldOrderSpec) (k := Rows.uptoSmall) (by rfl) (enc := enc) (C := Try.checked) (x := ([.agg [.nil, .lit (.int .i64 0), .nil, .lit (.int .i64 0)]], [], [])) false ⟨#[], #[.agg #[.slice none 0 0, .int .i64 0, .slice none 0 0, .int .i64 0]], []⟩ 8 (by kernel_rfl) (by kernel_rfl) (by kernel_rfl) (by kernel_rfl) (by kernel_rfl) (by kernel_rfl)) ?_
  intro W base args ds gs before hval0 hW hcnd hsm0 hsz0 _
  have hval : ∀ (j : Nat) t v, Try.f6.params[j]? = some t → args[j]? = some v → Value.okWide Try.prog W .any base t v := hval0
  have hW' := hW
  obtain ⟨p, q, hA0, hV, rfl, hfz, hnd⟩ := hW
  have hA : DataW.TrodAll enc Try.prog W 0 (fun _ => true) true Try.f6.params.toList args.toList ds p := hA0
  have hsz : (DataW.weightsEach Try.prog (Try.f6.params.toList ++ _) (ds ++ gs)).all (· ≤ reachBytes) = true := hsz0
  rw [show Try.f6.params = #[43] from by kernel_rfl] at hA hval hsz
  have hA1 := hA
  obtain ⟨v0, vs0, d0, ds0, p0, q0, hargs, rfl, rfl, h0, r0⟩ := trodAll_cons hA
  obtain ⟨rfl, rfl, rfl⟩ := trodAll_nil r0
  obtain rfl : args = #[v0] := by cases args; simp_all
  have hsm : Rows.uptoBulkAll _ ≤ 1048576 := of_decide_eq_true hsm0
  obtain ⟨j0, rfl, hj0⟩ := openJob (Q := uptoBd H) (fun d hd => Nat.le_trans (upto_in hd) hsm) (j := 0) hsz rfl rfl (hval 0 43 v0 rfl rfl) h0
  clear hA0 hA1 hval0 hsz0
  refine (CallsW.calls ⟨_, Try.func6, by kernel_rfl, by kernel_rfl⟩ (FoldOrder_ok hj0)).mono fun e W' ⟨w', hh, hk, v, he, hv, hg⟩ => ?_
  subst he; subst hv
  exact ⟨_, rfl, post_true (tb := 4) (by kernel_rfl) rfl (by kernel_rfl) (by kernel_rfl) ⟨rfl, rfl, rfl⟩ (by decide +kernel) hW' (below_of hg hh hk)⟩

theorem foldOrder_holds : Rows.FoldOrderUptoSaid :=
  OpenClaim.holds_of_cond 6 Try.f6 rfl rfl rfl rfl rfl rfl rfl ⟨rfl, rfl, rfl, rfl, rfl⟩ rfl rfl rfl rfl rfl (by kernel_rfl) Try.func6 (by kernel_rfl)
    (of_decide_eq_true (by kernel_rfl)) (by unfold Func.isWrapper; first | (rw [if_pos (by decide +kernel)]; kernel_rfl) | (rw [if_neg (by decide +kernel)]; exact ⟨rfl, rfl⟩))
    (fun os started H enc _ F => foldOrder_lifted os started H enc F)
end Go.Proofs.Ytoljpkdokpinhaa
