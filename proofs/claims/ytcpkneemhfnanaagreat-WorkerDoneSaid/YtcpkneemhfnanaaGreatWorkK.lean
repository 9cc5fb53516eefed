/- What a case of the law is made of. Conditions: none. -/
import Derived.Test.YtcpkneemhfnanaaGreatProg
import Derived.Test.YtcpkneemhfnanaaGreatWorkM
import Derived.Test.YtcpkneemhfnanaaGreatSxX
import Derived.Test.YtcpkneemhfnanaaGreatSxQ
namespace Go.Proofs.YtcpkneemhfnanaaGreat
open Go.Sx
set_option maxRecDepth 100000
set_option linter.unusedVariables false
set_option linter.unusedSimpArgs false
structure CaseX where
  p : Plan
  r : Sl3
  off : Int
  f : Sl3
def CaseX.vals (x : CaseX) : List Value := [.int .i64 x.p.c.parts, .int .i64 x.p.c.stores, .int .i64 x.p.c.workers, .slice x.p.o.1 x.p.o.2.1 x.p.o.2.2, .int .i64 x.p.c.agg, .int .i64 x.p.c.batch, .int .i64 x.p.c.window, .int .i64 x.p.c.giveUp, .slice x.r.1 x.r.2.1 x.r.2.2, .int .i64 x.off, .slice x.f.1 x.f.2.1 x.f.2.2]
@[reducible] def CaseX.val (x : CaseX) : Value := .agg #[.int .i64 x.p.c.parts, .int .i64 x.p.c.stores, .int .i64 x.p.c.workers, .slice x.p.o.1 x.p.o.2.1 x.p.o.2.2, .int .i64 x.p.c.agg, .int .i64 x.p.c.batch, .int .i64 x.p.c.window, .int .i64 x.p.c.giveUp, .slice x.r.1 x.r.2.1 x.r.2.2, .int .i64 x.off, .slice x.f.1 x.f.2.1 x.f.2.2]
def Enc.caseX : Enc CaseX := ⟨11, CaseX.vals, fun _ => rfl, by decide, fun x v h => by simp [CaseX.vals] at h; rcases h with rfl | rfl | rfl | rfl | rfl | rfl | rfl | rfl | rfl | rfl | rfl <;> rfl⟩
structure CaseIn (w : World) (x : CaseX) : Prop where
  plan : x.p.At w
  ops : ∀ o ∈ x.p.c.ops, o.Fits
  opl : x.p.c.ops.length ≤ maxLen ∧ x.p.c.ops.length * 24 ≤ 140737488351232
  rl : ∃ rs, Reads w Enc.rcd x.r rs ∧ ∀ r ∈ rs, r.Fits
  fl : ∃ fr, Reads w (Enc.int .i64) x.f fr
abbrev encIW : Enc Int := Enc.int .i64
theorem i64_kindsW : kindsOf Tryz.prog 2 3 = some [.int .i64] := by kernel_rfl
theorem i64_ofW (cs : List Value) (h : AllK [.int .i64] cs) : ∃ x : Int, cs = (Enc.int .i64).f x ∧ (-9223372036854775808 ≤ x ∧ x < 9223372036854775808) := by
  obtain ⟨hl, h⟩ := h
  match cs, hl with
  | [c0], _ =>
    obtain ⟨_, e0, n0, rfl, w0⟩ := h 0 _ rfl
    simp at e0; subst e0
    refine ⟨n0, rfl, ?_⟩
    simp [Lit.wf, IntKind.min, IntKind.max, IntKind.signed, IntKind.bits] at w0
    omega
theorem wop_kinds : kinds2 Tryz.prog 8 79 = some [.int .i64, .int .i64, .float .f64] := by kernel_rfl
theorem wrec_kinds : kinds2 Tryz.prog 8 43 = some [.int .u64, .float .f64] := by kernel_rfl
theorem wint_kinds : kinds2 Tryz.prog 2 3 = some [.int .i64] := by kernel_rfl
theorem wop_of {S : TypeId → Value → Prop} (cs : List Value) (h : AllK2 S [.int .i64, .int .i64, .float .f64] cs) : ∃ x : OpV, cs = Enc.op3.f x ∧ x.Fits := by
  obtain ⟨hl, h⟩ := h
  match cs, hl with
  | [c0, c1, c2], _ =>
    obtain ⟨_, e0, n0, rfl, w0⟩ := h 0 _ rfl
    obtain ⟨_, e1, n1, rfl, w1⟩ := h 1 _ rfl
    obtain ⟨_, e2, n2, rfl, w2⟩ := h 2 _ rfl
    simp at e0 e1 e2; subst e0; subst e1; subst e2
    refine ⟨⟨n0, n1, n2⟩, rfl, ?_⟩
    simp [Lit.wf, IntKind.min, IntKind.max, IntKind.signed, IntKind.bits] at w0 w1 w2
    refine ⟨⟨?_, ?_⟩, ⟨?_, ?_⟩, ?_⟩ <;> simp only <;> omega
theorem wrec_of {S : TypeId → Value → Prop} (cs : List Value) (h : AllK2 S [.int .u64, .float .f64] cs) : ∃ x : RecV, cs = Enc.rcd.f x ∧ x.Fits := by
  obtain ⟨hl, h⟩ := h
  match cs, hl with
  | [c0, c1], _ =>
    obtain ⟨_, e0, n0, rfl, w0⟩ := h 0 _ rfl
    obtain ⟨_, e1, n1, rfl, w1⟩ := h 1 _ rfl
    simp at e0 e1; subst e0; subst e1
    refine ⟨⟨n0, n1⟩, rfl, ?_⟩
    simp [Lit.wf, IntKind.min, IntKind.max, IntKind.signed, IntKind.bits] at w0 w1
    refine ⟨⟨?_, ?_⟩, ?_⟩ <;> simp only [u64m] <;> omega
theorem wint_of {S : TypeId → Value → Prop} (cs : List Value) (h : AllK2 S [.int .i64] cs) : ∃ x : Int, cs = (Enc.int .i64).f x ∧ True := by
  obtain ⟨hl, h⟩ := h
  match cs, hl with
  | [c0], _ =>
    obtain ⟨_, e0, n0, rfl, w0⟩ := h 0 _ rfl
    simp at e0; subst e0
    exact ⟨n0, rfl, trivial⟩
theorem case_kinds : kinds2 Tryz.prog 8 64 = some [.int .i64, .int .i64, .int .i64, .sub 22, .int .i64, .int .i64, .int .i64, .int .i64, .sub 62, .int .i64, .sub 44] := by kernel_rfl
section
open Go.ChangeShapes Go.WideShapes Go.RowKit
variable {H : Type} {enc : TypeId × Value → H}
theorem case_of {w : World} {spare : Nat → Bool} {held : Bool} (cs : List Value) (h : AllK2 (Sub enc Tryz.prog w spare held) [.int .i64, .int .i64, .int .i64, .sub 22, .int .i64, .int .i64, .int .i64, .int .i64, .sub 62, .int .i64, .sub 44] cs) : ∃ x : CaseX, cs = Enc.caseX.f x ∧ CaseIn w x := by
  obtain ⟨hl, h⟩ := h
  match cs, hl with
  | [c0, c1, c2, c3, c4, c5, c6, c7, c8, c9, c10], _ =>
    obtain ⟨_, e0, n0, rfl, -⟩ := h 0 _ rfl
    obtain ⟨_, e1, n1, rfl, -⟩ := h 1 _ rfl
    obtain ⟨_, e2, n2, rfl, -⟩ := h 2 _ rfl
    obtain ⟨v3, e3, h3⟩ := h 3 _ rfl
    obtain ⟨_, e4, n4, rfl, -⟩ := h 4 _ rfl
    obtain ⟨_, e5, n5, rfl, -⟩ := h 5 _ rfl
    obtain ⟨_, e6, n6, rfl, -⟩ := h 6 _ rfl
    obtain ⟨_, e7, n7, rfl, -⟩ := h 7 _ rfl
    obtain ⟨v8, e8, h8⟩ := h 8 _ rfl
    obtain ⟨_, e9, n9, rfl, -⟩ := h 9 _ rfl
    obtain ⟨v10, e10, h10⟩ := h 10 _ rfl
    simp at e0 e1 e2 e3 e4 e5 e6 e7 e8 e9 e10
    subst e0; subst e1; subst e2; subst e3; subst e4; subst e5; subst e6; subst e7; subst e8; subst e9; subst e10
    obtain ⟨a, n, c, l, rfl, hr, hf, hlen, hb⟩ := open_sub (show Sub enc Tryz.prog w spare held 22 c3 from h3) (by kernel_rfl) wop_kinds (by kernel_rfl) (B := 24) (by kernel_rfl) (E := Enc.op3) rfl wop_of
    obtain ⟨a2, m2, k2, rs, rfl, hr2, hf2, hlen2, hb2⟩ := open_sub (show Sub enc Tryz.prog w spare held 62 c8 from h8) (by kernel_rfl) wrec_kinds (by kernel_rfl) (B := 16) (by kernel_rfl) (E := Enc.rcd) rfl wrec_of
    obtain ⟨a3, m3, k3, fr, rfl, hr3, hf3, hlen3, hb3⟩ := open_sub (show Sub enc Tryz.prog w spare held 44 c10 from h10) (by kernel_rfl) wint_kinds (by kernel_rfl) (B := 8) (by kernel_rfl) (E := Enc.int .i64) rfl wint_of
    exact ⟨⟨⟨⟨n0, n1, n2, l, n4, n5, n6, n7⟩, (a, n, c)⟩, (a2, m2, k2), n9, (a3, m3, k3)⟩, rfl, hr, hf, ⟨hlen, hb⟩, ⟨rs, hr2, hf2⟩, ⟨fr, hr3⟩⟩
theorem openCase {ts : List TypeId} {ds : List (DataW H)} (hz : (DataW.weightsEach Tryz.prog ts ds).all (· ≤ reachBytes) = true) {j : Nat} (htj : ts[j]? = some 64) {dt : DataW H} (hdj : ds[j]? = some dt) {w : World} {spare : Nat → Bool} {held : Bool} {v : Value} {ps : List MemPlace}
    {r : Reach} {b0 : Nat} (hval : Value.okWide Tryz.prog w r b0 64 v) (h : DataW.Trod enc Tryz.prog w 0 spare held 64 v dt ps) : ∃ x : CaseX, v = x.val ∧ CaseIn w x := by
  obtain ⟨x, rfl, hx⟩ := arg_struct hz htj hdj (by kernel_rfl) case_kinds hval h (E := Enc.caseX) case_of
  exact ⟨x, rfl, hx⟩
end
end Go.Proofs.YtcpkneemhfnanaaGreat
