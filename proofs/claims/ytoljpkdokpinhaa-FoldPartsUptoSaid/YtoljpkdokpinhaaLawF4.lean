/- FoldParts: what it computes, and its row. Conditions: none. -/
import Derived.Test.YtoljpkdokpinhaaProg
import Derived.Test.YtoljpkdokpinhaaFoldK
import Derived.Test.YtoljpkdokpinhaaSxX
import Derived.Test.YtoljpkdokpinhaaSxQ
import Derived.Test.YtoljpkdokpinhaaSxT
import Derived.Deep.CondSized
import Derived.Test.YtoljpkdokpinhaaRows
namespace Go.Proofs.Ytoljpkdokpinhaa
open Go.Sx
set_option maxRecDepth 100000
set_option linter.unusedVariables false
set_option linter.unusedSimpArgs false
/- reprise/repriselaw05.FoldParts -/
def sx5 (d_0 : Option Addr) (d_0_n d_0_c : Nat) (d_1 : Int) (d_2 : Option Addr) (d_2_n d_2_c : Nat) (d_3 : Int) (R : Ending → World → Prop) (w : World) : Prop :=
  ∀ w1, Grew w w1 → CallsW Try.prog 10 [] w1 (RetR R fun u3 w2 => ∃ (b4 : Bool), u3 = .bool b4 ∧ (((!b4) = true → R (.returned (.bool false)) w2) ∧ ((!b4) = false → CallsW Try.prog 21 [.agg #[.slice d_0 d_0_n d_0_c, .int
    .i64 d_1, .slice d_2 d_2_n d_2_c, .int .i64 d_3]] w2 (RetR R fun u7 w6 => ∃ (b8 : Bool), u7 = .bool b8 ∧ (((!b8) = true → CallsW Try.prog 22 [.slice d_0 d_0_n d_0_c, .int .i64 d_1, .slice d_2 d_2_n d_2_c] w6 (RetR R
    fun u11 w10 => ∃ (a12 : Option Addr) (l12 c12 : Nat) (n13 : Int) (n14 : Int), u11 = .tuple #[.slice a12 l12 c12, .int .i64 n13, .int .i64 n14] ∧ (((((l12 : Nat) : Int) == 0) = true → (((n13 == 0) = true → (((n14 ==
    30) = true → R (.returned (.bool true)) w10) ∧ ((n14 == 30) = false → R (.returned (.bool (n14 == 1))) w10))) ∧ ((n13 == 0) = false → R (.returned (.bool false)) w10))) ∧ ((((l12 : Nat) : Int) == 0) = false → R
    (.returned (.bool false)) w10)))) ∧ ((!b8) = false → CallsW Try.prog 23 [.agg #[.slice d_0 d_0_n d_0_c, .int .i64 d_1, .slice d_2 d_2_n d_2_c, .int .i64 d_3]] w6 (RetR R fun u17 w16 => ∃ (n18 : Int), u17 = .int .i64
    n18 ∧ CallsW Try.prog 24 [.agg #[.slice d_0 d_0_n d_0_c, .int .i64 d_1, .slice d_2 d_2_n d_2_c, .int .i64 d_3], .slice d_2 d_2_n d_2_c] w16 (RetR R fun u21 w20 => ∃ (a22 : Option Addr) (l22 c22 : Nat) (n23 : Int) (b24
    : Bool), u21 = .tuple #[.slice a22 l22 c22, .int .i64 n23, .bool b24] ∧ ∀ w26, Grew w20 w26 → (0 ≤ n18 ∧ n18 ≤ (d_2_c : Nat)) ∧ CallsW Try.prog 24 [.agg #[.slice d_0 d_0_n d_0_c, .int .i64 d_1, .slice d_2 d_2_n d_2_c,
    .int .i64 d_3], .slice d_2 n18.toNat d_2_c] w26 (RetR R fun u28 w27 => ∃ (a29 : Option Addr) (l29 c29 : Nat) (n30 : Int) (b31 : Bool), u28 = .tuple #[.slice a29 l29 c29, .int .i64 n30, .bool b31] ∧ ∀ w33, Grew w27 w33
    → (0 ≤ n18 ∧ n18 ≤ (d_2_n : Nat)) ∧ CallsW Try.prog 24 [.agg #[.slice d_0 d_0_n d_0_c, .int .i64 d_1, .slice d_2 d_2_n d_2_c, .int .i64 d_3], .slice (if d_2_c = n18.toNat then d_2 else Option.map (fun x => Addr.add x
    (n18.toNat * 2)) d_2) (d_2_n - n18.toNat) (d_2_c - n18.toNat)] w33 (RetR R fun u35 w34 => ∃ (a36 : Option Addr) (l36 c36 : Nat) (n37 : Int) (b38 : Bool), u35 = .tuple #[.slice a36 l36 c36, .int .i64 n37, .bool b38] ∧
    (((!b24) = true → R (.returned (.bool false)) w34) ∧ ((!b24) = false → (((!b31) = true → R (.returned (.bool false)) w34) ∧ ((!b31) = false → (((!b38) = true → R (.returned (.bool false)) w34) ∧ ((!b38) = false → ∀
    n40 : Int, n40 = IntKind.i64.wrap (n30 + n37) → (((n23 != n40) = true → R (.returned (.bool false)) w34) ∧ ((n23 != n40) = false → CallsW Try.prog 13 [.int .i64 d_1, .slice a29 l29 c29, .slice a36 l36 c36] w34 (RetR R
    fun u42 w41 => ∃ (a43 : Option Addr) (l43 c43 : Nat) (n44 : Int), u42 = .tuple #[.slice a43 l43 c43, .int .i64 n44] ∧ CallsW Try.prog 13 [.int .i64 d_1, .slice a36 l36 c36, .slice a29 l29 c29] w41 (RetR R fun u47 w46
    => ∃ (a48 : Option Addr) (l48 c48 : Nat) (n49 : Int), u47 = .tuple #[.slice a48 l48 c48, .int .i64 n49] ∧ (((n44 == 0) = true → (((n49 == 0) = true → CallsW Try.prog 15 [.slice a43 l43 c43, .slice a22 l22 c22] w46
    (RetR R fun u52 w51 => ∃ (b53 : Bool), u52 = .bool b53 ∧ ((b53 = true → CallsW Try.prog 15 [.slice a48 l48 c48, .slice a22 l22 c22] w51 (RetR R fun u56 w55 => ∃ (b57 : Bool), u56 = .bool b57 ∧ R (.returned (.bool
    b57)) w55)) ∧ (b53 = false → R (.returned (.bool false)) w51)))) ∧ ((n49 == 0) = false → R (.returned (.bool false)) w46))) ∧ ((n44 == 0) = false → R (.returned (.bool false)) w46))))))))))))))))))))))
theorem sx5.ok {d_0 : Option Addr} {d_0_n d_0_c : Nat} {d_1 : Int} {d_2 : Option Addr} {d_2_n d_2_c : Nat} {d_3 : Int} {R : Ending → World → Prop} {w : World} (h : sx5 d_0 d_0_n d_0_c d_1 d_2 d_2_n d_2_c d_3 R w) : CallsW Try.prog 5 [.agg #[.slice d_0 d_0_n d_0_c, .int .i64 d_1, .slice d_2 d_2_n d_2_c, .int .i64 d_3]] w R :=
  callsW_of mix Try.func5 (by kernel_rfl) (by kernel_rfl) (Eq.mpr (by kernel_rfl : denFn Try.prog { locals := [1], named := [95], draws := [(8, { order := (.cons 0 (.cons 1 (.cons 2 (.cons 3 (.cons 4 (.cons 5 (.cons 6 (.cons 7 (.cons 8 (.cons 9 (.cons 10 (.cons 11 (.cons 12 .nil))))))))))))), bars := [5] }), (9, { order := (.cons 0 (.cons 1 (.cons 2 (.cons 3 (.cons 4 (.cons 5 (.cons 6 (.cons 7 (.cons 8 (.cons 9 (.cons 10 (.cons 11 (.cons 12 .nil))))))))))))), bars := [5] })] } Try.f5 [.agg #[.slice d_0 d_0_n d_0_c, .int .i64 d_1, .slice d_2 d_2_n d_2_c, .int .i64 d_3]] R w = sx5 d_0 d_0_n d_0_c d_1 d_2 d_2_n d_2_c d_3 R w) h)


theorem FoldParts_ok {j : JobS} {w : World} (hj : JobOk 1048576 w j) :
    CallsW Try.prog 5 [jobv j.o.1 j.o.2.1 j.o.2.2 j.kind j.r.1 j.r.2.1 j.r.2.2 j.at_] w (Rets fun v w' => v = .bool true ∧ Grew w w') := by
  obtain ⟨⟨oa, on, oc⟩, kind, ⟨ra, rn, rc⟩, at_⟩ := j
  obtain ⟨l, rs, hJ, hl, hrl⟩ := hj
  simp only at hJ ⊢
  refine sx5.ok ?_
  unfold sx5
  have hn : rn = rs.length := hJ.recs.2.1
  subst hn
  intro w1 hg1
  refine awakeF_ok.use fun v w2 ⟨hv, hg2⟩ => ?_
  subst hv
  have hg2 := hg1.trans hg2
  refine ⟨_, rfl, fun h => (by cases h), fun _ => (right_ok (hJ.grew hg2).ops).use fun v w6 ⟨hv, hg6⟩ => ?_⟩
  subst hv
  have hg6 := hg2.trans hg6
  cases hc : checkB l
  · refine ⟨_, rfl, fun _ => (Batch_ok (kind := kind) (hJ.grew hg6).ops hJ.fo (hJ.grew hg6).recs hJ.fr (by omega)).use fun u w10 ⟨a', n', c', hv, ho, hg10⟩ => ?_, fun h => (by simp at h)⟩
    simp only [hc, Bool.false_eq_true, false_and, if_false] at hv ho
    obtain rfl : n' = 0 := ho.len
    subst hv
    exact ⟨_, _, _, _, _, rfl, fun _ => ⟨fun _ => ⟨fun _ => ⟨_, rfl, rfl, hg6.trans hg10⟩, fun h => (by simp at h)⟩, fun h => (by simp at h)⟩, fun h => (by simp at h)⟩
  cases hk : knownB kind
  · refine ⟨_, rfl, fun _ => (Batch_ok (kind := kind) (hJ.grew hg6).ops hJ.fo (hJ.grew hg6).recs hJ.fr (by omega)).use fun u w10 ⟨a', n', c', hv, ho, hg10⟩ => ?_, fun h => (by simp at h)⟩
    simp only [hc, hk, Bool.false_eq_true, and_false, if_false, if_true] at hv ho
    obtain rfl : n' = 0 := ho.len
    subst hv
    exact ⟨_, _, _, _, _, rfl, fun _ => ⟨fun _ => ⟨fun h => (by simp at h), fun _ => ⟨_, rfl, rfl, hg6.trans hg10⟩⟩, fun h => (by simp at h)⟩, fun h => (by simp at h)⟩
  refine ⟨_, rfl, fun h => (by simp at h), fun _ => (place_okJ (by omega)).use fun v w10 ⟨hv, hpl, hg10⟩ => ?_⟩
  subst hv
  have hg10 := hg6.trans hg10
  refine ⟨_, rfl, ?_⟩
  generalize placeOf at_ rs.length = k at hpl
  have fA : ∀ x ∈ rs.take k, x.Fits := fun x hx => hJ.fr x (List.mem_of_mem_take hx)
  have fB : ∀ x ∈ rs.drop k, x.Fits := fun x hx => hJ.fr x (List.mem_of_mem_drop hx)
  have lA : (rs.take k).length ≤ 1048576 := by rw [List.length_take]; omega
  have lB : (rs.drop k).length ≤ 1048576 := by rw [List.length_drop]; omega
  refine (table_okK (oa := oa) (on := on) (oc := oc) (ra := ra) (rn := rs.length) (rc := rc) (at_ := at_) hc hk (hJ.grew hg10).ops hJ.fo (hJ.grew hg10).recs hJ.fr hrl).use fun u w20 ⟨a22, l22, c22, hv, ho22, hg20⟩ => ?_
  subst hv
  have hg20 := hg10.trans hg20
  refine ⟨_, _, _, _, _, rfl, fun w26 hg26' => ⟨⟨by omega, by have := hJ.recs.2.2.2; simp only at this; omega⟩, ?_⟩⟩
  have hg26 := hg20.trans hg26'
  have hr26 := (hJ.grew hg26).recs
  have rA : Reads w26 Enc.rcd (ra, k, rc) (rs.take k) := ⟨hr26.1.take k, by rw [List.length_take]; simp only; omega, hr26.2.2.1, by have := hr26.2.2.2; simp only at this ⊢; omega⟩
  rw [Int.toNat_natCast]
  refine (table_okK (oa := oa) (on := on) (oc := oc) (ra := ra) (rn := rs.length) (rc := rc) (at_ := at_) hc hk (hJ.grew hg26).ops hJ.fo rA fA lA).use fun u w27 ⟨a29, l29, c29, hv, ho29, hg27⟩ => ?_
  subst hv
  have hg27' := hg26.trans hg27
  refine ⟨_, _, _, _, _, rfl, fun w33 hg33 => ⟨⟨by omega, by omega⟩, ?_⟩⟩
  have hg33' := hg27'.trans hg33
  have rB := (hJ.grew hg33').recs.from (i := k) hpl
  refine (table_okK (oa := oa) (on := on) (oc := oc) (ra := ra) (rn := rs.length) (rc := rc) (at_ := at_) hc hk (hJ.grew hg33').ops hJ.fo rB fB lB).use fun u w34 ⟨a36, l36, c36, hv, ho36, hg34⟩ => ?_
  subst hv
  have hg34' := hg33'.trans hg34
  refine ⟨_, _, _, _, _, rfl, fun h => (by cases h), fun _ => ⟨fun h => (by cases h), fun _ => ⟨fun h => (by cases h), fun _ n40 h40 => ?_⟩⟩⟩
  have ht : trapN l rs = trapN l (rs.take k) + trapN l (rs.drop k) := by rw [← trapN_append, List.take_append_drop]
  have htl := trapN_len l rs
  have e40 : (trapN l rs : Int) = n40 := by rw [h40, ht, IntKind.wrap_i64]; omega
  rw [e40]
  refine ⟨fun h => (by simp at h), fun _ => ?_⟩
  have oA := (ho29.grew hg33).grew hg34
  have tA := tabl_len (l := l) (kind := kind) (rs := rs.take k)
  have tB := tabl_len (l := l) (kind := kind) (rs := rs.drop k)
  have tR := tabl_len (l := l) (kind := kind) (rs := rs)
  have sA := table_sound (list := l) hk hJ.fo fA
  have sB := table_sound (list := l) hk hJ.fo fB
  refine (add_okK hk oA.reads (tabl_fits hJ.fo fA) (by omega) ho36.reads (tabl_fits hJ.fo fB) (by omega) sA sB).use fun u w41 ⟨a43, l43, c43, hv, ho43, hg41⟩ => ?_
  subst hv
  have hg41' := hg34'.trans hg41
  refine ⟨_, _, _, _, rfl, (add_okK hk (ho36.grew hg41).reads (tabl_fits hJ.fo fB) (by omega) (oA.grew hg41).reads (tabl_fits hJ.fo fA) (by omega) sB sA).use fun u w46 ⟨a48, l48, c48, hv, ho48, hg46⟩ => ?_⟩
  subst hv
  have hg46' := hg41'.trans hg46
  have e1 : tableT (addT kind [] (tableT (batchAll l kind (rs.take k)).1 ++ tableT (batchAll l kind (rs.drop k)).1)) = tableT (batchAll l kind rs).1 := by
    have := parts_table (kind := kind) hk hJ.fo fA fB
    rw [List.take_append_drop] at this; exact this
  have P2 : (rs.drop k ++ rs.take k).Perm rs := by
    have h := List.perm_append_comm (l₁ := rs.drop k) (l₂ := rs.take k)
    rwa [List.take_append_drop] at h
  have e2 : tableT (addT kind [] (tableT (batchAll l kind (rs.drop k)).1 ++ tableT (batchAll l kind (rs.take k)).1)) = tableT (batchAll l kind rs).1 := by
    have h := parts_table (kind := kind) hk hJ.fo fB fA
    exact h.trans (table_eq hk hJ.fo (fun x hx => hJ.fr x (P2.mem_iff.1 hx)) hJ.fr (kept_perm P2))
  rw [e1] at ho43
  rw [e2] at ho48
  refine ⟨_, _, _, _, rfl, fun _ => ⟨fun _ => ?_, fun h => (by simp at h)⟩, fun h => (by simp at h)⟩
  have oR := ((((ho22.grew hg26').grew hg27).grew hg33).grew hg34).grew hg41 |>.grew hg46
  refine (same_ok (ho43.grew hg46).reads oR.reads (by omega)).use fun u w51 ⟨hv, hg51⟩ => ?_
  subst hv
  refine ⟨_, rfl, fun _ => ?_, fun h => (by simp at h)⟩
  refine (same_ok (ho48.grew hg51).reads (oR.grew hg51).reads (by omega)).use fun u w55 ⟨hv, hg55⟩ => ?_
  subst hv
  exact ⟨_, rfl, _, rfl, by simp, hg46'.trans (hg51.trans hg55)⟩

section
variable {H : Type}
theorem upto_pos (d : DataW H) : 1 ≤ Rows.uptoBulk d := by
  cases d with
  | lit l => cases l <;> simp [Rows.uptoBulk]
  | _ => simp [Rows.uptoBulk]
theorem upto_all_len : ∀ ds : List (DataW H), ds.length ≤ Rows.uptoBulkAll ds
  | [] => by simp [Rows.uptoBulkAll]
  | d :: r => by
    have h1 := upto_pos d; have h2 := upto_all_len r
    simp only [Rows.uptoBulkAll, List.length_cons]; omega
theorem upto_mem : ∀ {ds : List (DataW H)} {j : Nat} {d : DataW H}, ds[j]? = some d → Rows.uptoBulk d ≤ Rows.uptoBulkAll ds
  | [], j, d, h => by simp at h
  | x :: r, 0, d, h => by simp at h; subst h; simp only [Rows.uptoBulkAll]; omega
  | x :: r, j + 1, d, h => by
    have := upto_mem (ds := r) (j := j) (d := d) (by simpa using h)
    simp only [Rows.uptoBulkAll]; omega
theorem upto_len {ds : List (DataW H)} {B : Nat} (h : Rows.uptoBulkAll ds ≤ B) {j : Nat} {d : DataW H} {n : Nat} (hd : ds[j]? = some d) (hs : (d = .nil ∧ n = 0) ∨ ∃ es sp, d = .slice es sp ∧ es.length = n) : n ≤ B := by
  have h1 := upto_mem hd
  rcases hs with ⟨-, rfl⟩ | ⟨es, sp, rfl, rfl⟩
  · omega
  · have h2 := upto_all_len es
    simp only [Rows.uptoBulk] at h1; omega
end
section
variable {H : Type}
theorem upto_in {ds : List (DataW H)} {d : DataW H} (h : d ∈ ds) : Rows.uptoBulk d ≤ Rows.uptoBulkAll ds := by
  obtain ⟨j, hj⟩ := List.getElem?_of_mem h
  exact upto_mem hj
def uptoBd (H : Type) : Up.Bd H := ⟨Rows.uptoBulk, 1048576, fun es sp => by have := upto_all_len es; simp only [Rows.uptoBulk]; omega, fun es sp d hd => by have := upto_in hd; simp only [Rows.uptoBulk]; omega, fun ds d hd => by have := upto_in hd; simp only [Rows.uptoBulk]; omega⟩
end
open Go.ChangeShapes Go.WideShapes Go.ChangeAt Go.RowKit
set_option maxRecDepth 100000 in
theorem foldParts_lifted (os : Os) (started : os.Started) (H : Type) (enc : TypeId × Value → H) (F : Stop.Interp) :
    ReturnsInHanded {} Try.checked os 5 .any ((Rows.OpenSpec.upto Rows.foldPartsSpec).pre6 enc Try.prog Try.f5 Rows.foldPartsUptoRow.domain false) (((Rows.OpenSpec.upto Rows.foldPartsSpec).at F).post enc Try.prog Try.f5 false true false false) := by
  refine returnsInHanded_of_cond_sized (s := Rows.OpenSpec.upto Rows.foldPartsSpec) (k := Rows.uptoSmall) (by rfl) (C := Try.checked) (by kernel_rfl) started (by kernel_rfl) Try.func5
    (OpenSpec.witness (s := Rows.OpenSpec.upto Rows.foldPartsSpec) (k := Rows.uptoSmall) (by rfl) (enc := enc) (C := Try.checked) (x := ([.agg [.nil, .lit (.int .i64 0), .nil, .lit (.int .i64 0)]], [], [])) false ⟨#[], #[.agg #[.slice none 0 0, .int .i64 0, .slice none 0 0, .int .i64 0]], []⟩ 8 (by kernel_rfl) (by kernel_rfl) (by kernel_rfl) (by kernel_rfl) (by kernel_rfl) (by kernel_rfl)) ?_
  intro W base args ds gs before hval0 hW hcnd hsm0 hsz0 _
  have hval : ∀ (j : Nat) t v, Try.f5.params[j]? = some t → args[j]? = some v → Value.okWide Try.prog W .any base t v := hval0
  have hW' := hW
  obtain ⟨p, q, hA0, hV, rfl, hfz, hnd⟩ := hW
  have hA : DataW.TrodAll enc Try.prog W 0 (fun _ => true) true Try.f5.params.toList args.toList ds p := hA0
  have hsz : (DataW.weightsEach Try.prog (Try.f5.params.toList ++ _) (ds ++ gs)).all (· ≤ reachBytes) = true := hsz0
  rw [show Try.f5.params = #[43] from by kernel_rfl] at hA hval hsz
  have hA1 := hA
  obtain ⟨v0, vs0, d0, ds0, p0, q0, hargs, rfl, rfl, h0, r0⟩ := trodAll_cons hA
  obtain ⟨rfl, rfl, rfl⟩ := trodAll_nil r0
  obtain rfl : args = #[v0] := by cases args; simp_all
  have hsm : Rows.uptoBulkAll _ ≤ 1048576 := of_decide_eq_true hsm0
  obtain ⟨j0, rfl, hj0⟩ := openJob (Q := uptoBd H) (fun d hd => Nat.le_trans (upto_in hd) hsm) (j := 0) hsz rfl rfl (hval 0 43 v0 rfl rfl) h0
  clear hA0 hA1 hval0 hsz0
  refine (CallsW.calls ⟨_, Try.func5, by kernel_rfl, by kernel_rfl⟩ (FoldParts_ok hj0)).mono fun e W' ⟨w', hh, hk, v, he, hv, hg⟩ => ?_
  subst he; subst hv
  exact ⟨_, rfl, post_true (tb := 4) (by kernel_rfl) rfl (by kernel_rfl) (by kernel_rfl) ⟨rfl, rfl, rfl⟩ (by decide +kernel) hW' (below_of hg hh hk)⟩

theorem foldParts_holds : Rows.FoldPartsUptoSaid :=
  OpenClaim.holds_of_cond 5 Try.f5 rfl rfl rfl rfl rfl rfl rfl ⟨rfl, rfl, rfl, rfl, rfl⟩ rfl rfl rfl rfl rfl (by kernel_rfl) Try.func5 (by kernel_rfl)
    (of_decide_eq_true (by kernel_rfl)) (by unfold Func.isWrapper; first | (rw [if_pos (by decide +kernel)]; kernel_rfl) | (rw [if_neg (by decide +kernel)]; exact ⟨rfl, rfl⟩))
    (fun os started H enc _ F => foldParts_lifted os started H enc F)
end Go.Proofs.Ytoljpkdokpinhaa
