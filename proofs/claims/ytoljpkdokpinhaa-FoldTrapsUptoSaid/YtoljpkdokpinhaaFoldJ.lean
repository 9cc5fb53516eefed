/- Jobs: a pipeline, a kind, records, a place. Conditions: none. -/
import Derived.Test.YtoljpkdokpinhaaProg
import Derived.Test.YtoljpkdokpinhaaFoldL
import Derived.Test.YtoljpkdokpinhaaSxVg
import Derived.Test.YtoljpkdokpinhaaSxXu
namespace Go.Proofs.Ytoljpkdokpinhaa
open Go.Sx
set_option maxRecDepth 100000
set_option linter.unusedVariables false
set_option linter.unusedSimpArgs false
/- reprise/repriselaw05.right -/
def sx21 (j_0 : Option Addr) (j_0_n j_0_c : Nat) (j_1 : Int) (j_2 : Option Addr) (j_2_n j_2_c : Nat) (j_3 : Int) (R : Ending → World → Prop) (w : World) : Prop :=
  ∀ w1, Grew w w1 → CallsW Try.prog 34 [.slice j_0 j_0_n j_0_c] w1 (RetR R fun u3 w2 => ∃ (n4 : Int), u3 = .int .i64 n4 ∧ (((n4 == 0) = true → CallsW Try.prog 29 [.int .i64 j_1] w2 (RetR R fun u7 w6 => ∃ (b8 : Bool), u7 =
    .bool b8 ∧ R (.returned (.bool b8)) w6)) ∧ ((n4 == 0) = false → R (.returned (.bool false)) w2)))
theorem sx21.ok {j_0 : Option Addr} {j_0_n j_0_c : Nat} {j_1 : Int} {j_2 : Option Addr} {j_2_n j_2_c : Nat} {j_3 : Int} {R : Ending → World → Prop} {w : World} (h : sx21 j_0 j_0_n j_0_c j_1 j_2 j_2_n j_2_c j_3 R w) : CallsW Try.prog 21 [.agg #[.slice j_0 j_0_n j_0_c, .int .i64 j_1, .slice j_2 j_2_n j_2_c, .int .i64 j_3]] w R :=
  callsW_of mix Try.func21 (by kernel_rfl) (by kernel_rfl) (Eq.mpr (by kernel_rfl : denFn Try.prog { locals := [1] } Try.f21 [.agg #[.slice j_0 j_0_n j_0_c, .int .i64 j_1, .slice j_2 j_2_n j_2_c, .int .i64 j_3]] R w = sx21 j_0 j_0_n j_0_c j_1 j_2 j_2_n j_2_c j_3 R w) h)

/- reprise/repriselaw05.place -/
def sx23 (j_0 : Option Addr) (j_0_n j_0_c : Nat) (j_1 : Int) (j_2 : Option Addr) (j_2_n j_2_c : Nat) (j_3 : Int) (R : Ending → World → Prop) (w : World) : Prop :=
  ∀ w1, Grew w w1 → ∀ n2 : Int, n2 = IntKind.i64.wrap (((j_2_n : Nat) : Int) + 1) → (((IntKind.u64.wrap n2) = 0 → R (.panicked (divPanic Try.prog)) w1) ∧ ((IntKind.u64.wrap n2) ≠ 0 → ∀ n3 : Int, n3 = Int.tmod
    (IntKind.u64.wrap j_3) (IntKind.u64.wrap n2) → R (.returned (.int .i64 (IntKind.i64.wrap n3))) w1))
theorem sx23.ok {j_0 : Option Addr} {j_0_n j_0_c : Nat} {j_1 : Int} {j_2 : Option Addr} {j_2_n j_2_c : Nat} {j_3 : Int} {R : Ending → World → Prop} {w : World} (h : sx23 j_0 j_0_n j_0_c j_1 j_2 j_2_n j_2_c j_3 R w) : CallsW Try.prog 23 [.agg #[.slice j_0 j_0_n j_0_c, .int .i64 j_1, .slice j_2 j_2_n j_2_c, .int .i64 j_3]] w R :=
  callsW_of mix Try.func23 (by kernel_rfl) (by kernel_rfl) (Eq.mpr (by kernel_rfl : denFn Try.prog { locals := [1], named := [9, 11] } Try.f23 [.agg #[.slice j_0 j_0_n j_0_c, .int .i64 j_1, .slice j_2 j_2_n j_2_c, .int .i64 j_3]] R w = sx23 j_0 j_0_n j_0_c j_1 j_2 j_2_n j_2_c j_3 R w) h)

/- reprise/repriselaw05.table -/
def sx24 (j_0 : Option Addr) (j_0_n j_0_c : Nat) (j_1 : Int) (j_2 : Option Addr) (j_2_n j_2_c : Nat) (j_3 : Int) (recs : Option Addr) (recs_n recs_c : Nat) (R : Ending → World → Prop) (w : World) : Prop :=
  ∀ w1, Grew w w1 → CallsW Try.prog 22 [.slice j_0 j_0_n j_0_c, .int .i64 j_1, .slice recs recs_n recs_c] w1 (RetR R fun u3 w2 => ∃ (a4 : Option Addr) (l4 c4 : Nat) (n5 : Int) (n6 : Int), u3 = .tuple #[.slice a4 l4 c4, .int
    .i64 n5, .int .i64 n6] ∧ (((n6 == 0) = true → CallsW Try.prog 11 [.slice a4 l4 c4] w2 (RetR R fun u9 w8 => ∃ (b10 : Bool), u9 = .bool b10 ∧ R (.returned (.tuple #[.slice a4 l4 c4, .int .i64 n5, .bool b10])) w8)) ∧
    ((n6 == 0) = false → R (.returned (.tuple #[.slice a4 l4 c4, .int .i64 n5, .bool false])) w2)))
theorem sx24.ok {j_0 : Option Addr} {j_0_n j_0_c : Nat} {j_1 : Int} {j_2 : Option Addr} {j_2_n j_2_c : Nat} {j_3 : Int} {recs : Option Addr} {recs_n recs_c : Nat} {R : Ending → World → Prop} {w : World} (h : sx24 j_0 j_0_n j_0_c j_1 j_2 j_2_n j_2_c j_3 recs recs_n recs_c R w) : CallsW Try.prog 24 [.agg #[.slice j_0 j_0_n j_0_c, .int .i64 j_1, .slice j_2 j_2_n j_2_c, .int .i64 j_3], .slice recs recs_n recs_c] w R :=
  callsW_of mix Try.func24 (by kernel_rfl) (by kernel_rfl) (Eq.mpr (by kernel_rfl : denFn Try.prog { locals := [2] } Try.f24 [.agg #[.slice j_0 j_0_n j_0_c, .int .i64 j_1, .slice j_2 j_2_n j_2_c, .int .i64 j_3], .slice recs recs_n recs_c] R w = sx24 j_0 j_0_n j_0_c j_1 j_2 j_2_n j_2_c j_3 recs recs_n recs_c R w) h)


structure JobV where
  ops : List OpV
  kind : Int
  recs : List RecV
  place : Int
structure JobAt (w : World) (oa : Option Addr) (on oc : Nat) (kind : Int) (ra : Option Addr) (rn rc : Nat) (l : List OpV) (rs : List RecV) : Prop where
  ops : Reads w Enc.op3 (oa, on, oc) l
  recs : Reads w Enc.rcd (ra, rn, rc) rs
  fo : ∀ o ∈ l, o.Fits
  fr : ∀ x ∈ rs, x.Fits
theorem JobAt.grew {w w' : World} {oa : Option Addr} {on oc : Nat} {kind : Int} {ra : Option Addr} {rn rc : Nat} {l : List OpV} {rs : List RecV} (h : JobAt w oa on oc kind ra rn rc l rs) (hg : Grew w w') : JobAt w' oa on oc kind ra rn rc l rs := ⟨h.ops.grew hg, h.recs.grew hg, h.fo, h.fr⟩
@[reducible] def jobv (oa : Option Addr) (on oc : Nat) (kind : Int) (ra : Option Addr) (rn rc : Nat) (at_ : Int) : Value := .agg #[.slice oa on oc, .int .i64 kind, .slice ra rn rc, .int .i64 at_]
theorem right_ok {oa : Option Addr} {on oc : Nat} {kind : Int} {ra : Option Addr} {rn rc : Nat} {at_ : Int} {l : List OpV} {w : World} (ho : Reads w Enc.op3 (oa, on, oc) l) :
    CallsW Try.prog 21 [jobv oa on oc kind ra rn rc at_] w (Rets fun v w' => v = .bool (checkB l && knownB kind) ∧ Grew w w') := by
  refine sx21.ok ?_
  unfold sx21
  intro w1 hg1
  refine (Check_ok (ho.grew hg1)).use fun u w2 ⟨hv, hg2⟩ => ?_
  subst hv
  have hg2 := hg1.trans hg2
  cases hc : checkB l
  · exact ⟨_, rfl, fun h => (by simp at h), fun _ => ⟨_, rfl, rfl, hg2⟩⟩
  · refine ⟨_, rfl, fun _ => Known_ok.use fun u w6 ⟨hv, hw⟩ => ?_, fun h => (by simp at h)⟩
    subst hv; subst hw
    exact ⟨_, rfl, _, rfl, by simp, hg2⟩
def placeOf (at_ : Int) (n : Nat) : Nat := (Int.tmod (IntKind.u64.wrap at_) ((n : Int) + 1)).toNat
theorem place_okJ {oa : Option Addr} {on oc : Nat} {kind : Int} {ra : Option Addr} {rn rc : Nat} {at_ : Int} {w : World} (hn : rn ≤ 9223372036854775806) :
    CallsW Try.prog 23 [jobv oa on oc kind ra rn rc at_] w (Rets fun v w' => v = .int .i64 (placeOf at_ rn : Int) ∧ placeOf at_ rn ≤ rn ∧ Grew w w') := by
  refine sx23.ok ?_
  unfold sx23
  intro w1 hg1 n2 h2
  have e2 : IntKind.u64.wrap n2 = (rn : Int) + 1 := by rw [h2, IntKind.wrap_i64, IntKind.wrap_u64]; omega
  rw [e2]
  refine ⟨fun h => (by omega), fun _ n3 h3 => ⟨_, rfl, ?_⟩⟩
  have hu : 0 ≤ IntKind.u64.wrap at_ := by rw [IntKind.wrap_u64]; omega
  have h0 := Int.tmod_nonneg ((rn : Int) + 1) hu
  have h1 := Int.tmod_lt_of_pos (IntKind.u64.wrap at_) (show (0 : Int) < (rn : Int) + 1 by omega)
  have e3 : n3 = (placeOf at_ rn : Int) := by unfold placeOf; rw [h3]; omega
  have hle : placeOf at_ rn ≤ rn := by unfold placeOf; omega
  refine ⟨?_, hle, hg1⟩
  rw [e3]; congr 1
  rw [IntKind.wrap_i64]; omega
theorem table_okJ {oa : Option Addr} {on oc : Nat} {kind : Int} {ra : Option Addr} {rn rc : Nat} {at_ : Int} {l : List OpV} {w : World} {a : Option Addr} {n c : Nat} {rs : List RecV} (hc : checkB l = true) (hk : knownB kind = true) (ho : Reads w Enc.op3 (oa, on, oc) l) (hl : ∀ o ∈ l, o.Fits) (hi : Reads w Enc.rcd (a, n, c) rs) (hf : ∀ x ∈ rs, x.Fits) (hs : rs.length * 24 ≤ 140737488355328) (hsnd : soundB (tableT (batchAll l kind rs).1) = true) (hlen : (tableT (batchAll l kind rs).1).length ≤ maxLen) :
    CallsW Try.prog 24 [jobv oa on oc kind ra rn rc at_, .slice a n c] w (Rets fun u w' => ∃ a' n' c', u = .tuple #[.slice a' n' c', .int .i64 (batchAll l kind rs).2, .bool true] ∧ Own w' w.heap.size 38 Enc.pair a' n' c' (tableT (batchAll l kind rs).1) ∧ Grew w w') := by
  refine sx24.ok ?_
  unfold sx24
  intro w1 hg1
  refine (Batch_ok (kind := kind) (ho.grew hg1) hl (hi.grew hg1) hf hs).use fun u w2 ⟨a', n', c', hv, ho2, hg2⟩ => ?_
  rw [hc, hk] at hv
  simp only [hc, hk, and_self, if_true] at ho2 hv
  subst hv
  refine ⟨_, _, _, _, _, rfl, fun _ => (Sound_ok ho2.reads hlen).use fun u w8 ⟨hv, hg8⟩ => ?_, fun h => (by simp at h)⟩
  rw [hsnd] at hv
  subst hv
  exact ⟨_, rfl, _, rfl, a', n', c', rfl, (ho2.grew hg8).base hg1.size, hg1.trans (hg2.trans hg8)⟩

theorem batch_same (l : List OpV) (kind : Int) (rs : List RecV) : batchAll l kind rs = bAll l kind rs := rfl

/-! ### a job as an argument -/
theorem jop_kinds : kinds2 Try.prog 8 59 = some [.int .i64, .int .i64, .float .f64] := by kernel_rfl
theorem jrec_kinds : kinds2 Try.prog 8 52 = some [.int .u64, .float .f64] := by kernel_rfl
theorem job_kinds : kinds2 Try.prog 8 43 = some [.sub 40, .int .i64, .sub 41, .int .i64] := by kernel_rfl
theorem jop_of {S : TypeId → Value → Prop} (cs : List Value) (h : AllK2 S [.int .i64, .int .i64, .float .f64] cs) : ∃ x : OpV, cs = Enc.op3.f x ∧ x.Fits := by
  obtain ⟨hl, h⟩ := h
  match cs, hl with
  | [c0, c1, c2], _ =>
    obtain ⟨_, e0, n0, rfl, w0⟩ := h 0 _ rfl
    obtain ⟨_, e1, n1, rfl, w1⟩ := h 1 _ rfl
    obtain ⟨_, e2, n2, rfl, w2⟩ := h 2 _ rfl
    simp at e0 e1 e2; subst e0; subst e1; subst e2
    refine ⟨⟨n0, n1, n2⟩, rfl, ?_⟩
    simp [Lit.wf, IntKind.min, IntKind.max, IntKind.signed, IntKind.bits] at w0 w1 w2
    refine ⟨⟨?_, ?_⟩, ⟨?_, ?_⟩, ?_⟩ <;> simp only <;> omega
theorem jrec_of {S : TypeId → Value → Prop} (cs : List Value) (h : AllK2 S [.int .u64, .float .f64] cs) : ∃ x : RecV, cs = Enc.rcd.f x ∧ x.Fits := by
  obtain ⟨hl, h⟩ := h
  match cs, hl with
  | [c0, c1], _ =>
    obtain ⟨_, e0, n0, rfl, w0⟩ := h 0 _ rfl
    obtain ⟨_, e1, n1, rfl, w1⟩ := h 1 _ rfl
    simp at e0 e1; subst e0; subst e1
    refine ⟨⟨n0, n1⟩, rfl, ?_⟩
    simp [Lit.wf, IntKind.min, IntKind.max, IntKind.signed, IntKind.bits] at w0 w1
    refine ⟨⟨?_, ?_⟩, ?_⟩ <;> simp only [u64m] <;> omega
structure JobS where
  o : Option Addr × Nat × Nat
  kind : Int
  r : Option Addr × Nat × Nat
  at_ : Int
def Enc.jobS : Enc JobS := ⟨4, fun j => [.slice j.o.1 j.o.2.1 j.o.2.2, .int .i64 j.kind, .slice j.r.1 j.r.2.1 j.r.2.2, .int .i64 j.at_], fun _ => rfl, by decide, fun x v h => by simp at h; rcases h with rfl | rfl | rfl | rfl <;> rfl⟩
section
open Go.ChangeShapes Go.WideShapes Go.RowKit
variable {H : Type} {enc : TypeId × Value → H} {Q : Up.Bd H}
/-- what a job's argument is -/
def JobOk (U : Nat) (w : World) (j : JobS) : Prop := ∃ (l : List OpV) (rs : List RecV), JobAt w j.o.1 j.o.2.1 j.o.2.2 j.kind j.r.1 j.r.2.1 j.r.2.2 l rs ∧ l.length ≤ U ∧ rs.length ≤ U
theorem job_of {w : World} {spare : Nat → Bool} {held : Bool} (cs : List Value) (h : AllK2 (Up.Sub enc Try.prog Q w spare held) [.sub 40, .int .i64, .sub 41, .int .i64] cs) : ∃ x : JobS, cs = Enc.jobS.f x ∧ JobOk Q.U w x := by
  obtain ⟨hl, h⟩ := h
  match cs, hl with
  | [c0, c1, c2, c3], _ =>
    obtain ⟨v0, e0, h0⟩ := h 0 _ rfl
    obtain ⟨_, e1, n1, rfl, w1⟩ := h 1 _ rfl
    obtain ⟨v2, e2, h2⟩ := h 2 _ rfl
    obtain ⟨_, e3, n3, rfl, w3⟩ := h 3 _ rfl
    simp at e0 e1 e2 e3; subst e0; subst e1; subst e2; subst e3
    obtain ⟨a, n, c, l, rfl, hr, hf, hlen, hb, hU⟩ := Up.open_sub h0 (e := 59) (by kernel_rfl) jop_kinds (by kernel_rfl) (B := 24) (by kernel_rfl) (E := Enc.op3) rfl jop_of
    obtain ⟨a2, n2, c2, rs, rfl, hr2, hf2, hlen2, hb2, hU2⟩ := Up.open_sub h2 (e := 52) (by kernel_rfl) jrec_kinds (by kernel_rfl) (B := 16) (by kernel_rfl) (E := Enc.rcd) rfl jrec_of
    exact ⟨⟨(a, n, c), n1, (a2, n2, c2), n3⟩, rfl, l, rs, ⟨hr, hr2, hf, hf2⟩, hU, hU2⟩
theorem openJob {ts : List TypeId} {ds : List (DataW H)} (hU : ∀ d ∈ ds, Q.bk d ≤ Q.U) (hz : (DataW.weightsEach Try.prog ts ds).all (· ≤ reachBytes) = true) {j : Nat} (htj : ts[j]? = some 43) {dt : DataW H} (hdj : ds[j]? = some dt) {w : World} {spare : Nat → Bool} {held : Bool} {v : Value} {ps : List MemPlace}
    {r : Reach} {b0 : Nat} (hval : Value.okWide Try.prog w r b0 43 v) (h : DataW.Trod enc Try.prog w 0 spare held 43 v dt ps) :
    ∃ x : JobS, v = jobv x.o.1 x.o.2.1 x.o.2.2 x.kind x.r.1 x.r.2.1 x.r.2.2 x.at_ ∧ JobOk Q.U w x := by
  obtain ⟨x, rfl, hx⟩ := Up.arg_struct hU hz htj hdj (by kernel_rfl) job_kinds hval h (E := Enc.jobS) job_of
  exact ⟨x, rfl, hx⟩
end
end Go.Proofs.Ytoljpkdokpinhaa
