/- What a net's script is made of. Conditions: none. -/
import Derived.Test.YtlkfkcgnlnbdeaaProg
import Derived.Test.YtlkfkcgnlnbdeaaNetG
import Derived.Test.YtlkfkcgnlnbdeaaSxX
namespace Go.Proofs.Ytlkfkcgnlnbdeaa
open Go.Sx
set_option maxRecDepth 100000
set_option linter.unusedVariables false
set_option linter.unusedSimpArgs false

/-- one call of a net -/
structure OpN where
  kind : Int
  on : Int
  k : Int
  m : Msg
def Enc.op : Enc OpN := ⟨12, fun x => .int .i64 x.kind :: .int .i64 x.on :: .int .i64 x.k :: x.m.vals, fun _ => rfl, by decide, fun x v h => by simp [Msg.vals] at h; rcases h with rfl | rfl | rfl | rfl | rfl | rfl | rfl | rfl | rfl | rfl | rfl | rfl <;> rfl⟩
structure MsgIn (w : World) (x : Msg) : Prop where
  at_ : x.At w
  fits : x.c.Fits
  e : x.c.ends.length * 8 ≤ 140737488351232
  k : x.c.keys.length * 8 ≤ 140737488351232
  p : x.c.pairs.length * 24 ≤ 140737488351232
def OpOk (w : World) (x : OpN) : Prop := MsgIn w x.m

theorem i64_kinds : kinds2 Try.prog 2 3 = some [.int .i64] := by kernel_rfl
theorem u64_kinds : kinds2 Try.prog 2 56 = some [.int .u64] := by kernel_rfl
theorem pair_kinds : kinds2 Try.prog 6 60 = some [.int .u64, .bool, .int .u64] := by kernel_rfl
theorem op_kinds : kinds2 Try.prog 8 37 = some [.int .i64, .int .i64, .int .i64, .int .i64, .int .i64, .int .i64, .int .i64, .int .i64, .int .i64, .sub 31, .sub 32, .sub 33] := by kernel_rfl
theorem msg_kinds : kinds2 Try.prog 8 35 = some [.int .i64, .int .i64, .int .i64, .int .i64, .int .i64, .int .i64, .sub 31, .sub 32, .sub 33] := by kernel_rfl
section
variable {H : Type} {enc : TypeId × Value → H}
theorem i64_of {S : TypeId → Value → Prop} (cs : List Value) (h : AllK2 S [.int .i64] cs) : ∃ x : Int, cs = (Enc.int .i64).f x ∧ (-9223372036854775808 ≤ x ∧ x < 9223372036854775808) := by
  obtain ⟨hl, h⟩ := h
  match cs, hl with
  | [c0], _ =>
    obtain ⟨_, e0, n0, rfl, w0⟩ := h 0 _ rfl
    simp at e0; subst e0
    refine ⟨n0, rfl, ?_⟩
    simp [Lit.wf, IntKind.min, IntKind.max, IntKind.signed, IntKind.bits] at w0
    omega
theorem u64_of {S : TypeId → Value → Prop} (cs : List Value) (h : AllK2 S [.int .u64] cs) : ∃ x : Int, cs = (Enc.int .u64).f x ∧ (0 ≤ x ∧ x < u64m) := by
  obtain ⟨hl, h⟩ := h
  match cs, hl with
  | [c0], _ =>
    obtain ⟨_, e0, n0, rfl, w0⟩ := h 0 _ rfl
    simp at e0; subst e0
    refine ⟨n0, rfl, ?_⟩
    simp [Lit.wf, IntKind.min, IntKind.max, IntKind.signed, IntKind.bits] at w0
    simp only [u64m]; omega
theorem pair_of {S : TypeId → Value → Prop} (cs : List Value) (h : AllK2 S [.int .u64, .bool, .int .u64] cs) : ∃ x : PairV, cs = Enc.pair.f x ∧ x.Fits := by
  obtain ⟨hl, h⟩ := h
  match cs, hl with
  | [c0, c1, c2], _ =>
    obtain ⟨_, e0, n0, rfl, w0⟩ := h 0 _ rfl
    obtain ⟨_, e1, b1, rfl⟩ := h 1 _ rfl
    obtain ⟨_, e2, n2, rfl, w2⟩ := h 2 _ rfl
    simp at e0 e1 e2; subst e0; subst e1; subst e2
    refine ⟨⟨n0, b1, n2⟩, rfl, ?_⟩
    simp [Lit.wf, IntKind.min, IntKind.max, IntKind.signed, IntKind.bits] at w0 w2
    constructor <;> simp only [u64m] <;> omega
theorem msg_in {w : World} {spare : Nat → Bool} {held : Bool} {n0 n1 n2 n3 n4 n5 : Int} {v6 v7 v8 : Value} (w0 : (Lit.int .i64 n0).wf = true) (w1 : (Lit.int .i64 n1).wf = true) (w2 : (Lit.int .i64 n2).wf = true) (w3 : (Lit.int .i64 n3).wf = true) (w4 : (Lit.int .i64 n4).wf = true) (w5 : (Lit.int .i64 n5).wf = true)
    (h6 : Sub enc Try.prog w spare held 31 v6) (h7 : Sub enc Try.prog w spare held 32 v7) (h8 : Sub enc Try.prog w spare held 33 v8) :
    ∃ x : Msg, [.int .i64 n0, .int .i64 n1, .int .i64 n2, .int .i64 n3, .int .i64 n4, .int .i64 n5, v6, v7, v8] = x.vals ∧ MsgIn w x := by
  obtain ⟨a6, m6, c6, l6, rfl, r6, o6, -, b6⟩ := open_sub h6 (by kernel_rfl) i64_kinds (by kernel_rfl) (B := 8) (by kernel_rfl) (E := Enc.int .i64) rfl i64_of
  obtain ⟨a7, m7, c7, l7, rfl, r7, o7, -, b7⟩ := open_sub h7 (by kernel_rfl) u64_kinds (by kernel_rfl) (B := 8) (by kernel_rfl) (E := Enc.int .u64) rfl u64_of
  obtain ⟨a8, m8, c8, l8, rfl, r8, o8, -, b8⟩ := open_sub h8 (by kernel_rfl) pair_kinds (by kernel_rfl) (B := 24) (by kernel_rfl) (E := Enc.pair) rfl pair_of
  refine ⟨⟨⟨n0, n1, n2, n3, n4, n5, l6, l7, l8⟩, (a6, m6, c6), (a7, m7, c7), (a8, m8, c8)⟩, rfl, ⟨r6, r7, r8⟩, ⟨?_, o6, o7, o8⟩, b6, b7, b8⟩
  simp [Lit.wf, IntKind.min, IntKind.max, IntKind.signed, IntKind.bits] at w0 w1 w2 w3 w4 w5
  intro x hx
  simp at hx
  omega
theorem op_of {w : World} {spare : Nat → Bool} {held : Bool} (cs : List Value) (h : AllK2 (Sub enc Try.prog w spare held) [.int .i64, .int .i64, .int .i64, .int .i64, .int .i64, .int .i64, .int .i64, .int .i64, .int .i64, .sub 31, .sub 32, .sub 33] cs) : ∃ x : OpN, cs = Enc.op.f x ∧ OpOk w x := by
  obtain ⟨hl, h⟩ := h
  match cs, hl with
  | [c0, c1, c2, c3, c4, c5, c6, c7, c8, c9, c10, c11], _ =>
    obtain ⟨_, e0, n0, rfl, w0⟩ := h 0 _ rfl
    obtain ⟨_, e1, n1, rfl, w1⟩ := h 1 _ rfl
    obtain ⟨_, e2, n2, rfl, w2⟩ := h 2 _ rfl
    obtain ⟨_, e3, n3, rfl, w3⟩ := h 3 _ rfl
    obtain ⟨_, e4, n4, rfl, w4⟩ := h 4 _ rfl
    obtain ⟨_, e5, n5, rfl, w5⟩ := h 5 _ rfl
    obtain ⟨_, e6, n6, rfl, w6⟩ := h 6 _ rfl
    obtain ⟨_, e7, n7, rfl, w7⟩ := h 7 _ rfl
    obtain ⟨_, e8, n8, rfl, w8⟩ := h 8 _ rfl
    obtain ⟨v9, e9, h9⟩ := h 9 _ rfl
    obtain ⟨v10, e10, h10⟩ := h 10 _ rfl
    obtain ⟨v11, e11, h11⟩ := h 11 _ rfl
    simp at e0 e1 e2 e3 e4 e5 e6 e7 e8 e9 e10 e11
    subst e0; subst e1; subst e2; subst e3; subst e4; subst e5; subst e6; subst e7; subst e8; subst e9; subst e10; subst e11
    obtain ⟨x, hx, ho⟩ := msg_in w3 w4 w5 w6 w7 w8 h9 h10 h11
    exact ⟨⟨n0, n1, n2, x⟩, by simp only [Enc.op, ← hx], ho⟩
theorem msg_of {w : World} {spare : Nat → Bool} {held : Bool} (cs : List Value) (h : AllK2 (Sub enc Try.prog w spare held) [.int .i64, .int .i64, .int .i64, .int .i64, .int .i64, .int .i64, .sub 31, .sub 32, .sub 33] cs) : ∃ x : Msg, cs = Enc.msg.f x ∧ MsgIn w x := by
  obtain ⟨hl, h⟩ := h
  match cs, hl with
  | [c3, c4, c5, c6, c7, c8, c9, c10, c11], _ =>
    obtain ⟨_, e3, n3, rfl, w3⟩ := h 0 _ rfl
    obtain ⟨_, e4, n4, rfl, w4⟩ := h 1 _ rfl
    obtain ⟨_, e5, n5, rfl, w5⟩ := h 2 _ rfl
    obtain ⟨_, e6, n6, rfl, w6⟩ := h 3 _ rfl
    obtain ⟨_, e7, n7, rfl, w7⟩ := h 4 _ rfl
    obtain ⟨_, e8, n8, rfl, w8⟩ := h 5 _ rfl
    obtain ⟨v9, e9, h9⟩ := h 6 _ rfl
    obtain ⟨v10, e10, h10⟩ := h 7 _ rfl
    obtain ⟨v11, e11, h11⟩ := h 8 _ rfl
    simp at e3 e4 e5 e6 e7 e8 e9 e10 e11
    subst e3; subst e4; subst e5; subst e6; subst e7; subst e8; subst e9; subst e10; subst e11
    obtain ⟨x, hx, ho⟩ := msg_in w3 w4 w5 w6 w7 w8 h9 h10 h11
    exact ⟨x, hx, ho⟩
end
/-- a script that can be read -/
structure Script (w : World) (a : Option Addr) (n c : Nat) (l : List OpN) : Prop where
  r : Reads w Enc.op (a, n, c) l
  ok : ∀ x ∈ l, OpOk w x
theorem Script.grew {w w' : World} {a : Option Addr} {n c : Nat} {l : List OpN} (h : Script w a n c l) (hg : Grew w w') : Script w' a n c l :=
  ⟨h.r.grew hg, fun x hx => let o := h.ok x hx; ⟨o.at_.grew hg, o.fits, o.e, o.k, o.p⟩⟩
theorem Script.cells {w : World} {a : Option Addr} {n c : Nat} {l : List OpN} (h : Script w a n c l) {k : Nat} (hk : k < n) : ∃ d x, a = some d ∧ l[k]? = some x ∧ OpOk w x ∧
    w.cell? (Addr.add d (((k : Nat) : Int).toNat * 12)) = some (.int .i64 x.kind) ∧ w.cell? (Addr.add (Addr.add d (((k : Nat) : Int).toNat * 12)) 1) = some (.int .i64 x.on) ∧ w.cell? (Addr.add (Addr.add d (((k : Nat) : Int).toNat * 12)) 2) = some (.int .i64 x.k) ∧ CellsAt w (Addr.add (Addr.add d (((k : Nat) : Int).toNat * 12)) 3) 0 x.m.vals := by
  obtain ⟨d, x, hd, hx, hc⟩ := h.r.at0 hk
  refine ⟨d, x, hd, hx, h.ok x (List.mem_of_getElem? hx), ?_, ?_, ?_, ?_⟩
  · have := hc.1; simpa [Enc.op, Addr.add_zero'] using this
  · have := hc.2.1; simpa [Enc.op, Addr.add_add] using this
  · have := hc.2.2.1; simpa [Enc.op, Addr.add_add] using this
  · have h2 := hc.2.2.2
    exact cellsAt_of fun j u hj => by
      have := cellsAt_get h2 j u hj
      simpa [Addr.add_add, Enc.op, Nat.add_assoc, Nat.add_comm, Nat.add_left_comm] using this
end Go.Proofs.Ytlkfkcgnlnbdeaa
