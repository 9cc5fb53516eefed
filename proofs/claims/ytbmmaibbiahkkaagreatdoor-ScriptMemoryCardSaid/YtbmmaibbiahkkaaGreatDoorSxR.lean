/- Sources of records in memory. Conditions: none. -/
import Derived.Test.YtbmmaibbiahkkaaGreatDoorSxFc
import Derived.Test.YtbmmaibbiahkkaaGreatDoorSxZ
import Derived.Test.YtbmmaibbiahkkaaGreatDoorSxP
namespace Go.Sx
set_option linter.unusedSimpArgs false
set_option linter.unusedVariables false
section
variable {α β : Type}
theorem Own.objC {w : World} {B : Nat} {e : TypeId} {E : Enc α} {a : Option Addr} {n c : Nat} {l : List α} (h : Own w B e E a n c l) {b : Nat} (hb : Blk a b) : ∃ cur, w.heap[b]? = some (.cells cur e (0, 0)) := by
 obtain ⟨d, rfl, rfl⟩ := hb
 rcases h.out with ⟨h, -⟩ | ⟨g, cur, hd, -, hg, -⟩
 ·cases h
 ·cases hd; exact ⟨cur, hg⟩
theorem Cn {w : World} {B B' : Nat} {e e' : TypeId} {E : Enc α} {E' : Enc β} {a a' : Option Addr} {n c n' c' : Nat} {l : List α} {l' : List β} (h : Own w B e E a n c l) (h' : Own w B' e' E' a' n' c' l') (hne : e ≠ e') : ∀ b, Blk a b → ¬ Blk a' b := by
 intro b hb hb'
 obtain ⟨c1, h1⟩ := h.objC hb
 obtain ⟨c2, h2⟩ := h'.objC hb'
 rw [h1] at h2
 exact hne (Obj.cells.inj (Option.some.inj h2)).2.1
theorem Row.row_ne {w : World} {g g' : Nat} {e e' : TypeId} {cs cs' : List Value} (h : Row w g e cs) (h' : Row w g' e' cs') (hne : e ≠ e') : g ≠ g' := by
 rintro rfl
 unfold Row at h h'
 rw [h] at h'
 exact hne (Obj.cells.inj (Option.some.inj h')).2.1
end
structure SrcV where
 parts : List (List RecV × Bool)
 list : List OpV
 keys : List Int
deriving DecidableEq
def SrcV.getP (v : SrcV) (p : Int) : Option (List RecV × Bool) := if 0 ≤ p then v.parts[p.toNat]? else none
def SrcV.up (v : SrcV) (p : Int) : Bool := match v.getP p with | none => false | some q => !q.2
def SrcV.read (v : SrcV) (p fr most : Int) : List RecV × Int := match v.getP p with
 | none => ([], 60)
 | some q => if fr < 0 ∨ (q.1.length : Int) < fr ∨ most < 0 then ([], 1) else if q.2 then ([], 63) else ((q.1.drop fr.toNat).take most.toNat, 0)
structure SrcV.Fits (v : SrcV) : Prop where
 list : ∀ o ∈ v.list, o.Fits
 check : Qe v.list = true
 parts : 1 ≤ v.parts.length ∧ v.parts.length ≤ 4
 logs : ∀ q ∈ v.parts, q.1.length ≤ 256 ∧ ∀ r ∈ q.1, r.Fits
 keys : v.keys.Nodup ∧ v.keys.length ≤ 64 ∧ ∀ k ∈ v.keys, 0 ≤ k ∧ k < u64m
def Enc.part : Enc ((Option Addr × Nat × Nat) × Bool) := ⟨2, fun s => [.slice s.1.1 s.1.2.1 s.1.2.2, .bool s.2], fun _ => rfl, by decide, fun x v h => by simp at h; rcases h with rfl | rfl <;> rfl⟩
section
variable {tS tP tR tO : TypeId}
end
structure Ou where
 key : Int
 has : Bool
 bits : Int
deriving DecidableEq
def Ou.Fits (x : Ou) : Prop := (0 ≤ x.key ∧ x.key < u64m) ∧ (0 ≤ x.bits ∧ x.bits < u64m)
structure MsgV where
 kind : Int
 frm : Int
 to : Int
 batch : Int
 att : Int
 code : Int
 ends : List Int
 keys : List Int
 pairs : List Ou
abbrev Sl3 := Option Addr × Nat × Nat
structure Msg where
 c : MsgV
 e : Sl3
 k : Sl3
 p : Sl3
def Msg.vals (x : Msg) : List Value := [.int .i64 x.c.kind, .int .i64 x.c.frm, .int .i64 x.c.to, .int .i64 x.c.batch, .int .i64 x.c.att, .int .i64 x.c.code, .slice x.e.1 x.e.2.1 x.e.2.2, .slice x.k.1 x.k.2.1 x.k.2.2, .slice x.p.1 x.p.2.1 x.p.2.2]
@[reducible] def Msg.val (x : Msg) : Value := .agg #[.int .i64 x.c.kind, .int .i64 x.c.frm, .int .i64 x.c.to, .int .i64 x.c.batch, .int .i64 x.c.att, .int .i64 x.c.code, .slice x.e.1 x.e.2.1 x.e.2.2, .slice x.k.1 x.k.2.1 x.k.2.2, .slice x.p.1 x.p.2.1 x.p.2.2]
structure MsgV.Fits (m : MsgV) : Prop where
 i : ∀ x ∈ [m.kind, m.frm, m.to, m.batch, m.att, m.code], -9223372036854775808 ≤ x ∧ x < 9223372036854775808
 e : ∀ x ∈ m.ends, -9223372036854775808 ≤ x ∧ x < 9223372036854775808
 k : ∀ x ∈ m.keys, 0 ≤ x ∧ x < u64m
 p : ∀ x ∈ m.pairs, x.Fits
end Go.Sx
