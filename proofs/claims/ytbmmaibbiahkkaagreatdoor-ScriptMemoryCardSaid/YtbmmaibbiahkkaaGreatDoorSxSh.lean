/- A script's reader in memory. Conditions: none. -/
import Derived.Test.YtbmmaibbiahkkaaGreatDoorSxSg
import Derived.Test.YtbmmaibbiahkkaaGreatDoorSxR
namespace Go.Sx
variable {TR TO TS : TypeId} {w w' w0 : World} {B q : Nat}
def Enc.stepE : Enc Af := ⟨5, fun s => [.int .i64 s.kind, .int .i64 s.node, .int .i64 s.n, .int .u64 s.r.key, .float .f64 s.r.val], fun _ => rfl, by decide, fun x v h => by simp at h; rcases h with rfl | rfl | rfl | rfl | rfl <;> rfl⟩
theorem Ax {α : Type} {e T : TypeId} {E : Enc α} {a : Option Addr} {n c : Nat} {l : List α} {cs : List Value} (h : Own w B e E a n c l) (hr : Row w q T cs) (hne : e ≠ T) : ¬ Blk a q := by
 rintro ⟨d, hd, hb⟩
 rcases h.row with ⟨h1, -⟩ | ⟨g, cs', h1, -, h2, -⟩
 ·rw [h1] at hd; cases hd
 ·rw [h1] at hd; cases hd
  exact h2.row_ne hr hne hb
structure RdX where
 o : Sl3
 s : Sl3
def Eg : Option ScrP → List Int
 | none => [0, 0, 0, 0, 0, 0, 0]
 | some p => [p.n0, p.n1, p.n2, p.n3, p.n4, p.n5, p.n6]
def Cf : Option ScrP → List OpV
 | none => []
 | some p => p.ops
def Ba (ns : List Int) (x : RdX) (b : Bool) : List Value := match ns with
 | [n0, n1, n2, n3, n4, n5, n6] => [.int .i64 n0, .int .i64 n1, .int .i64 n2, .slice x.o.1 x.o.2.1 x.o.2.2, .int .i64 n3, .int .i64 n4, .int .i64 n5, .int .i64 n6, .slice x.s.1 x.s.2.1 x.s.2.2, .bool b]
 | _ => []
def RdX.Foot (x : RdX) (q b : Nat) : Prop := b = q ∨ Blk x.o.1 b ∨ Blk x.s.1 b
structure RdG (TR TO TS : TypeId) (w : World) (B q : Nat) (x : RdX) (ns : List Int) (b : Bool) (ops : List OpV) (steps : List Af) : Prop where
 row : Row w q TR (Ba ns x b)
 low : B ≤ q
 ops : Own w B TO Enc.op3 x.o.1 x.o.2.1 x.o.2.2 ops
 steps : Own w B TS Enc.stepE x.s.1 x.s.2.1 x.s.2.2 steps
abbrev RdAt (TR TO TS : TypeId) (w : World) (B q : Nat) (x : RdX) (st : ScrS) : Prop := RdG TR TO TS w B q x (Eg st.p) st.p.isSome (Cf st.p) st.steps
theorem RdG.grew {x : RdX} {ns : List Int} {b : Bool} {ops : List OpV} {steps : List Af} (h : RdG TR TO TS w B q x ns b ops steps) (hg : Grew w w') : RdG TR TO TS w' B q x ns b ops steps := ⟨h.row.grew hg, h.low, h.ops.grew hg, h.steps.grew hg⟩
theorem RdG.foot {x : RdX} {ns : List Int} {b : Bool} {ops : List OpV} {steps : List Af} (h : RdG TR TO TS w B q x ns b ops steps) {k : Nat} (hk : x.Foot q k) : B ≤ k ∧ k < w.heap.size := by
 rcases hk with rfl | hk | hk
 ·exact ⟨h.low, h.row.lt⟩
 ·exact h.ops.blk hk
 ·exact h.steps.blk hk
def RdM (TR TO TS : TypeId) (w : World) (B q : Nat) (x : RdX) (st : ScrS) (w' : World) : Prop := ∃ x', RdAt TR TO TS w' B q x' st ∧ Upd (x.Foot q) w w' ∧ ∀ k, x'.Foot q k → x.Foot q k ∨ w.heap.size ≤ k
theorem len7 {α : Type} {l : List α} (h : l.length = 7) : ∃ a b c d e f g, l = [a, b, c, d, e, f, g] := by
 match l, h with
 | [a, b, c, d, e, f, g], _ => exact ⟨_, _, _, _, _, _, _, rfl⟩
theorem Nc {args : List L8} (h : args.length ≠ 7) : E3 args = none := by
 unfold E3
 split
 ·simp at h
 ·rfl
theorem Nf {args : List L8} {j : Nat} {a : L8} (h : args.length = 7) (hj : args[j]? = some a) (hn : numL a = none) : E3 args = none := by
 obtain ⟨a0, a1, a2, a3, a4, a5, a6, rfl⟩ := len7 h
 have hj7 : j < 7 := by simpa using (List.getElem?_eq_some_iff.1 hj).1
 have : j = 0 ∨ j = 1 ∨ j = 2 ∨ j = 3 ∨ j = 4 ∨ j = 5 ∨ j = 6 := by omega
 rcases this with rfl | rfl | rfl | rfl | rfl | rfl | rfl <;> (cases hj; simp only [E3, hn]) <;> (split <;> simp_all)
theorem L5 {args : List L8} {vs : List Int} (h : args.length = 7) (hv : vs.length = 7) (hh : ∀ (j : Nat) a v, args[j]? = some a → vs[j]? = some v → numL a = some v) : ∃ p, E3 args = some p ∧ Eg (some p) = vs ∧ p.ops = [] := by
 obtain ⟨a0, a1, a2, a3, a4, a5, a6, rfl⟩ := len7 h
 obtain ⟨v0, v1, v2, v3, v4, v5, v6, rfl⟩ := len7 hv
 refine ⟨⟨v0, v1, v2, v3, v4, v5, v6, []⟩, ?_, rfl, rfl⟩
 simp only [E3, hh 0 _ _ rfl rfl, hh 1 _ _ rfl rfl, hh 2 _ _ rfl rfl, hh 3 _ _ rfl rfl, hh 4 _ _ rfl rfl, hh 5 _ _ rfl rfl, hh 6 _ _ rfl rfl]
def ix7 (j : Nat) : Nat := if j < 3 then j else j + 1
theorem Ld {ns : List Int} (h : ns.length = 7) (x : RdX) (b : Bool) {j : Nat} (hj : j < 7) (v : Int) : (Ba ns x b).set (ix7 j) (.int .i64 v) = Ba (ns.set j v) x b ∧ ix7 j < (Ba ns x b).length := by
 obtain ⟨a0, a1, a2, a3, a4, a5, a6, rfl⟩ := len7 h
 have : j = 0 ∨ j = 1 ∨ j = 2 ∨ j = 3 ∨ j = 4 ∨ j = 5 ∨ j = 6 := by omega
 rcases this with rfl | rfl | rfl | rfl | rfl | rfl | rfl <;> exact ⟨rfl, by show ix7 _ < 10; decide⟩
theorem Im {ns : List Int} (h : ns.length = 7) (x : RdX) (b : Bool) : (Ba ns x b)[3]? = some (.slice x.o.1 x.o.2.1 x.o.2.2) ∧ (Ba ns x b)[8]? = some (.slice x.s.1 x.s.2.1 x.s.2.2) ∧ (Ba ns x b)[9]? = some (.bool b) ∧ (Ba ns x b).length = 10 ∧
  (∀ b', (Ba ns x b).set 9 (.bool b') = Ba ns x b') ∧ (∀ y, (Ba ns x b).set 3 (.slice y.1 y.2.1 y.2.2) = Ba ns { x with o := y } b) ∧ (∀ y, (Ba ns x b).set 8 (.slice y.1 y.2.1 y.2.2) = Ba ns { x with s := y } b) := by
 obtain ⟨a0, a1, a2, a3, a4, a5, a6, rfl⟩ := len7 h
 exact ⟨rfl, rfl, rfl, rfl, fun _ => rfl, fun _ => rfl, fun _ => rfl⟩
theorem Io (p : Option ScrP) : (Eg p).length = 7 := by cases p <;> rfl
end Go.Sx
