/- What the laws' arguments over scripts are made of, and the listed variables. Conditions: none. -/
import Derived.Test.YtbmmaibbiahkkaaGreatDoorProg
import Derived.Test.YtbmmaibbiahkkaaGreatDoorScrQ
import Derived.Test.YtbmmaibbiahkkaaGreatDoorScrGl
import Derived.Test.YtbmmaibbiahkkaaGreatDoorSxX
namespace Go.Proofs.YtbmmaibbiahkkaaGreatDoor
open Go.Sx
set_option maxRecDepth 100000
set_option linter.unusedVariables false
set_option linter.unusedSimpArgs false
theorem Np : Ey Tryz.prog 8 49 = some [.int .i64, .int .i64, .float .f64] := by kernel_rfl
theorem Lk : Ey Tryz.prog 8 46 = some [.int .i64, .int .i64, .int .i64, .int .u64, .float .f64] := by kernel_rfl
theorem Ll : Ey Tryz.prog 8 25 = some [.int .i64, .int .i64, .int .i64, .sub 23, .int .i64, .int .i64, .int .i64, .int .i64] := by kernel_rfl
structure Me (w : World) (p : ScrP) (o : Sl3) : Prop where
 fits : p.Fits
 ops : Reads w Enc.op3 o p.ops
 len : p.ops.length ≤ maxLen
 size : p.ops.length * 24 ≤ 140737488351232
section
variable {H : Type} {enc : TypeId × Value → H}
theorem Ql {S : TypeId → Value → Prop} (cs : List Value) (h : Ja S [.int .i64, .int .i64, .float .f64] cs) : ∃ x : OpV, cs = Enc.op3.f x ∧ x.Fits := by
 obtain ⟨hl, h⟩ := h
 match cs, hl with
 | [c0, c1, c2], _ =>
  obtain ⟨_, e0, n0, rfl, w0⟩ := h 0 _ rfl
  obtain ⟨_, e1, n1, rfl, w1⟩ := h 1 _ rfl
  obtain ⟨_, e2, n2, rfl, w2⟩ := h 2 _ rfl
  simp at e0 e1 e2; subst e0; subst e1; subst e2
  refine ⟨⟨n0, n1, n2⟩, rfl, ?_⟩
  simp [Lit.wf, IntKind.min, IntKind.max, IntKind.signed, IntKind.bits] at w0 w1 w2
  refine ⟨⟨?_, ?_⟩, ⟨?_, ?_⟩, ?_⟩ <;> simp only <;> omega
theorem Pd {S : TypeId → Value → Prop} (cs : List Value) (h : Ja S [.int .i64, .int .i64, .int .i64, .int .u64, .float .f64] cs) : ∃ x : Af, cs = Enc.stepE.f x ∧ x.Fits := by
 obtain ⟨hl, h⟩ := h
 match cs, hl with
 | [c0, c1, c2, c3, c4], _ =>
  obtain ⟨_, e0, n0, rfl, w0⟩ := h 0 _ rfl
  obtain ⟨_, e1, n1, rfl, w1⟩ := h 1 _ rfl
  obtain ⟨_, e2, n2, rfl, w2⟩ := h 2 _ rfl
  obtain ⟨_, e3, n3, rfl, w3⟩ := h 3 _ rfl
  obtain ⟨_, e4, n4, rfl, w4⟩ := h 4 _ rfl
  simp at e0 e1 e2 e3 e4; subst e0; subst e1; subst e2; subst e3; subst e4
  refine ⟨⟨n0, n1, n2, ⟨n3, n4⟩⟩, rfl, ?_⟩
  simp [Lit.wf, IntKind.min, IntKind.max, IntKind.signed, IntKind.bits] at w0 w1 w2 w3 w4
  refine ⟨⟨?_, ?_⟩, ⟨?_, ?_⟩, ⟨?_, ?_⟩, ⟨?_, ?_⟩, ?_⟩ <;> simp only [u64m] <;> omega
theorem Pe {w : World} {spare : Nat → Bool} {held : Bool} (cs : List Value) (h : Ja (Sub enc Tryz.prog w spare held) [.int .i64, .int .i64, .int .i64, .sub 23, .int .i64, .int .i64, .int .i64, .int .i64] cs) : ∃ (p : ScrP) (o : Sl3), cs = (Iv p o).cells.toList ∧ Me w p o := by
 obtain ⟨hl, h⟩ := h
 match cs, hl with
 | [c0, c1, c2, c3, c4, c5, c6, c7], _ =>
  obtain ⟨_, e0, n0, rfl, w0⟩ := h 0 _ rfl
  obtain ⟨_, e1, n1, rfl, w1⟩ := h 1 _ rfl
  obtain ⟨_, e2, n2, rfl, w2⟩ := h 2 _ rfl
  obtain ⟨v3, e3, h3⟩ := h 3 _ rfl
  obtain ⟨_, e4, n4, rfl, w4⟩ := h 4 _ rfl
  obtain ⟨_, e5, n5, rfl, w5⟩ := h 5 _ rfl
  obtain ⟨_, e6, n6, rfl, w6⟩ := h 6 _ rfl
  obtain ⟨_, e7, n7, rfl, w7⟩ := h 7 _ rfl
  simp at e0 e1 e2 e3 e4 e5 e6 e7
  subst e0; subst e1; subst e2; subst e3; subst e4; subst e5; subst e6; subst e7
  obtain ⟨a, n, c, l, rfl, hr, hf, hlen, hb⟩ := Ku (show Sub enc Tryz.prog w spare held 23 c3 from h3) (by kernel_rfl) Np (by kernel_rfl) (B := 24) (by kernel_rfl) (E := Enc.op3) rfl Ql
  refine ⟨⟨n0, n1, n2, n4, n5, n6, n7, l⟩, (a, n, c), rfl, ⟨⟨fun z hz => ?_, hf⟩, hr, hlen, hb⟩⟩
  simp [Lit.wf, IntKind.min, IntKind.max, IntKind.signed, IntKind.bits] at w0 w1 w2 w4 w5 w6 w7
  simp only [List.mem_cons, List.mem_nil_iff, or_false] at hz
  omega
open Go.WideShapes Go.ChangeShapes Go.RowKit in
theorem Nq {ts : List TypeId} {ds : List (DataW H)} (hz : (DataW.weightsEach Tryz.prog ts ds).all (· ≤ reachBytes) = true) {j : Nat} (htj : ts[j]? = some 25) {dt : DataW H} (hdj : ds[j]? = some dt) {w : World} {spare : Nat → Bool} {held : Bool} {v : Value} {ps : List MemPlace}
  {r : Reach} {b0 : Nat} (hval : Value.okWide Tryz.prog w r b0 25 v) (h : DataW.Trod enc Tryz.prog w 0 spare held 25 v dt ps) : ∃ (p : ScrP) (o : Sl3), v = Iv p o ∧ Me w p o := by
 have ht' : Ex Tryz.prog 25 = true := by kernel_rfl
 obtain ⟨fs, hf⟩ := Ex.elim ht'
 obtain ⟨cs, rfl, -⟩ := okWide_struct hf hval
 obtain ⟨fuel, h⟩ := h
 obtain ⟨p, o, hx, ho⟩ := Pe _ (Ec 8 25 _ Ll fuel _ _ h (Mn hz htj hdj))
 refine ⟨p, o, ?_, ho⟩
 have e : cs = #[Value.int .i64 p.n0, .int .i64 p.n1, .int .i64 p.n2, .slice o.1 o.2.1 o.2.2, .int .i64 p.n3, .int .i64 p.n4, .int .i64 p.n5, .int .i64 p.n6] := by
  have : cs.toList = _ := hx
  exact Array.toList_inj.1 this
 rw [e]
end
end Go.Proofs.YtbmmaibbiahkkaaGreatDoor
