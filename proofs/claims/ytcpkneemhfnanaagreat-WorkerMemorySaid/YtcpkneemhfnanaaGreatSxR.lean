/- Messages in lists. Conditions: none. -/
import Derived.Test.YtcpkneemhfnanaaGreatSxW
import Derived.Test.YtcpkneemhfnanaaGreatSxP
namespace Go.Sx
set_option linter.unusedSimpArgs false
set_option linter.unusedVariables false

structure PairV where
  key : Int
  has : Bool
  bits : Int
deriving DecidableEq
def Enc.pair : Enc PairV := ⟨3, fun x => [.int .u64 x.key, .bool x.has, .int .u64 x.bits], fun _ => rfl, by decide, fun x v h => by simp at h; rcases h with rfl | rfl | rfl <;> rfl⟩
def PairV.Fits (x : PairV) : Prop := (0 ≤ x.key ∧ x.key < u64m) ∧ (0 ≤ x.bits ∧ x.bits < u64m)

/-- what a message says -/
structure MsgV where
  kind : Int
  frm : Int
  to : Int
  batch : Int
  att : Int
  code : Int
  ends : List Int
  keys : List Int
  pairs : List PairV
abbrev Sl3 := Option Addr × Nat × Nat
/-- a message and where its lists lie -/
structure Msg where
  c : MsgV
  e : Sl3
  k : Sl3
  p : Sl3
def Msg.vals (x : Msg) : List Value := [.int .i64 x.c.kind, .int .i64 x.c.frm, .int .i64 x.c.to, .int .i64 x.c.batch, .int .i64 x.c.att, .int .i64 x.c.code, .slice x.e.1 x.e.2.1 x.e.2.2, .slice x.k.1 x.k.2.1 x.k.2.2, .slice x.p.1 x.p.2.1 x.p.2.2]
@[reducible] def Msg.val (x : Msg) : Value := .agg #[.int .i64 x.c.kind, .int .i64 x.c.frm, .int .i64 x.c.to, .int .i64 x.c.batch, .int .i64 x.c.att, .int .i64 x.c.code, .slice x.e.1 x.e.2.1 x.e.2.2, .slice x.k.1 x.k.2.1 x.k.2.2, .slice x.p.1 x.p.2.1 x.p.2.2]
def Enc.msg : Enc Msg := ⟨9, Msg.vals, fun _ => rfl, by decide, fun x v h => by simp [Msg.vals] at h; rcases h with rfl | rfl | rfl | rfl | rfl | rfl | rfl | rfl | rfl <;> rfl⟩
/-- its lists lie there -/
structure Msg.At (w : World) (x : Msg) : Prop where
  e : Reads w (Enc.int .i64) x.e x.c.ends
  k : Reads w (Enc.int .u64) x.k x.c.keys
  p : Reads w Enc.pair x.p x.c.pairs
def Msg.Blk (x : Msg) (b : Nat) : Prop := Go.Sx.Blk x.e.1 b ∨ Go.Sx.Blk x.k.1 b ∨ Go.Sx.Blk x.p.1 b
theorem Msg.At.grew {w w' : World} {x : Msg} (h : x.At w) (hg : Grew w w') : x.At w' := ⟨h.e.grew hg, h.k.grew hg, h.p.grew hg⟩
theorem Msg.At.upd {S : Nat → Prop} {w w' : World} {x : Msg} (h : x.At w) (hu : Upd S w w') (hn : ∀ b, x.Blk b → ¬ S b) : x.At w' :=
  ⟨h.e.upd hu fun b hb => hn b (.inl hb), h.k.upd hu fun b hb => hn b (.inr (.inl hb)), h.p.upd hu fun b hb => hn b (.inr (.inr hb))⟩
structure MsgV.Fits (m : MsgV) : Prop where
  i : ∀ x ∈ [m.kind, m.frm, m.to, m.batch, m.att, m.code], -9223372036854775808 ≤ x ∧ x < 9223372036854775808
  e : ∀ x ∈ m.ends, -9223372036854775808 ≤ x ∧ x < 9223372036854775808
  k : ∀ x ∈ m.keys, 0 ≤ x ∧ x < u64m
  p : ∀ x ∈ m.pairs, x.Fits

theorem Reads.nil {α : Type} {w : World} {E : Enc α} : Reads w E (none, 0, 0) ([] : List α) := ⟨Sl.nil _ _ _, rfl, fun _ => rfl, Nat.le_refl _⟩
/-! ### what is a message -/
def fieldM (k : Int) : Int := if k = 1 ∨ k = 2 ∨ k = 3 ∨ k = 8 then 1 else if k = 4 then 2 else if k = 6 then 3 else if k = 5 ∨ k = 7 then 4 else 0
def soundP : List PairV → Bool
  | [] => true
  | [x] => x.has
  | x :: y :: r => x.has && (decide (x.key < y.key) && soundP (y :: r))
theorem soundP_iff : ∀ l : List PairV, soundP l = true ↔ (∀ (i : Nat) (x : PairV), l[i]? = some x → x.has = true) ∧ ∀ (i : Nat) (x y : PairV), l[i]? = some x → l[i + 1]? = some y → x.key < y.key
  | [] => by simp [soundP]
  | [x] => by
    simp only [soundP]
    constructor
    · intro h; refine ⟨fun i y hy => ?_, fun i y z hy hz => by simp at hz⟩
      cases i with
      | zero => simp at hy; subst hy; exact h
      | succ i => simp at hy
    · intro h; exact h.1 0 x rfl
  | x :: y :: r => by
    rw [soundP, Bool.and_eq_true, Bool.and_eq_true, decide_eq_true_eq, soundP_iff (y :: r)]
    constructor
    · rintro ⟨h1, h2, h3, h4⟩
      refine ⟨fun i z hz => ?_, fun i u v hu hv => ?_⟩
      · cases i with
        | zero => simp at hz; subst hz; exact h1
        | succ i => exact h3 i z (by simpa using hz)
      · cases i with
        | zero => simp at hu hv; subst hu; subst hv; exact h2
        | succ i => exact h4 i u v (by simpa using hu) (by simpa using hv)
    · rintro ⟨h1, h2⟩
      exact ⟨h1 0 x rfl, h2 0 x y rfl rfl, fun i z hz => h1 (i + 1) z (by simpa using hz), fun i u v hu hv => h2 (i + 1) u v (by simpa using hu) (by simpa using hv)⟩
def endsB (l : List Int) : Bool := l.all fun e => decide (0 ≤ e ∧ e ≤ 256)
def soundMsg (m : MsgV) : Bool :=
  decide (fieldM m.kind ≠ 0 ∧ (0 ≤ m.frm ∧ m.frm ≤ 8) ∧ (0 ≤ m.to ∧ m.to ≤ 8) ∧ (1 ≤ m.batch ∧ m.batch ≤ 1099511627776) ∧ (1 ≤ m.att ∧ m.att ≤ 1099511627776) ∧
    (fieldM m.kind ≠ 1 → m.ends.length = 0) ∧ (fieldM m.kind ≠ 2 → m.keys.length = 0) ∧ (fieldM m.kind ≠ 3 → m.pairs.length = 0) ∧ (fieldM m.kind ≠ 4 → m.code = 0) ∧
    (fieldM m.kind = 1 → 1 ≤ m.ends.length ∧ m.ends.length ≤ 4) ∧ endsB m.ends = true ∧ m.keys.length ≤ 64 ∧ risingK m.keys = true ∧ m.pairs.length ≤ 64 ∧ soundP m.pairs = true ∧ (0 ≤ m.code ∧ m.code ≤ 1000))
theorem soundMsg_iff (m : MsgV) : soundMsg m = true ↔ (fieldM m.kind ≠ 0 ∧ (0 ≤ m.frm ∧ m.frm ≤ 8) ∧ (0 ≤ m.to ∧ m.to ≤ 8) ∧ (1 ≤ m.batch ∧ m.batch ≤ 1099511627776) ∧ (1 ≤ m.att ∧ m.att ≤ 1099511627776) ∧
    (fieldM m.kind ≠ 1 → m.ends.length = 0) ∧ (fieldM m.kind ≠ 2 → m.keys.length = 0) ∧ (fieldM m.kind ≠ 3 → m.pairs.length = 0) ∧ (fieldM m.kind ≠ 4 → m.code = 0) ∧
    (fieldM m.kind = 1 → 1 ≤ m.ends.length ∧ m.ends.length ≤ 4) ∧ endsB m.ends = true ∧ m.keys.length ≤ 64 ∧ risingK m.keys = true ∧ m.pairs.length ≤ 64 ∧ soundP m.pairs = true ∧ (0 ≤ m.code ∧ m.code ≤ 1000)) := by
  unfold soundMsg; rw [decide_eq_true_eq]
end Go.Sx
