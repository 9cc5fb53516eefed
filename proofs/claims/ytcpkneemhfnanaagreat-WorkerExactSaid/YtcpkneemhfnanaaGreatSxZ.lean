/- The keys of a map, one by one. Conditions: none. -/
import Derived.Test.YtcpkneemhfnanaaGreatSxSr
import Derived.Test.YtcpkneemhfnanaaGreatSxP
import Derived.Maps.Range
import Derived.RangeFuncGives
import Derived.RangeFuncRecord
import Derived.Maps.AppendAt
import Derived.Sort.MapsRangeIn
import Derived.OwnWalkIn
import Derived.TacticsInMore
import Derived.RegionIn
import Derived.LoopNIn
import Derived.LoopIn
import Derived.WalkKit
namespace Go.Sx
set_option linter.unusedSimpArgs false
open Go.MapKept Go.RowKit
open Go.WideElems (Fit rd rg pl rd_key rd_val rg_of)
open Go.Maps (Keyed)
set_option linter.unusedVariables false
section
variable {P : Program} {α : Type}
def Fv : Value → Option (DataW Unit × List MemPlace) := fun _ => some (.nil, [])
noncomputable def mapD (P : Program) (k : TypeId) (es : Array MapEntry) : DataW Unit := .map ((es.toList.map (rg P k Fv)).foldr DataW.insert [])
theorem Wq {w w₀ : World} {k : TypeId} {b : Nat} {q : IntKind} {F : α → Value} {m : List (Int × α)} (hk : P.underlying k = some (.int q)) (h : Av w b q F m) (hw : A5 w w₀) (hsz : m.length ≤ maxLen) :
  ∃ D, w₀.ownsMap P k Fv b m.length D ∧ (∀ x, Maps.has D (.int q x) = true ↔ x ∈ m.map (·.1)) ∧ Maps.size D = m.length := by
 obtain ⟨es, clock, hb, he, hs, hwf⟩ := h
 have hb₀ := hw.at hb (by simp [hole])
 have hl : es.size = m.length := by have := congrArg List.length he; simpa using this
 have hkey : ∀ x ∈ es.toList, ∃ p ∈ m, x.key = .int q p.1 ∧ keyOf P k x.key = some (.int q p.1) := by
  intro x hx
  obtain ⟨j, hj⟩ := List.getElem?_of_mem hx
  have := Jv he (j := j)
  rw [hj] at this
  cases hm : m[j]? with
  | none => rw [hm] at this; cases this
  | some p =>
   rw [hm] at this; simp at this
   have hp := hwf p (List.mem_of_getElem? hm)
   exact ⟨p, List.mem_of_getElem? hm, this.1, by rw [this.1]; simp [keyOf, hk, mapKey, hp]⟩
 have hrd : ∀ x ∈ es.toList, ∃ p ∈ m, x.key = .int q p.1 ∧ rd P k Fv x = some (.int q p.1, .nil) := by
  intro x hx
  obtain ⟨p, hp, h1, h2⟩ := hkey x hx
  exact ⟨p, hp, h1, by simp [rd, h2, Fv]⟩
 refine ⟨mapD P k es, ⟨es, clock, hb₀, ⟨by omega, hs, fun x hx => by obtain ⟨p, -, -, h⟩ := hrd x hx; exact ⟨_, h⟩⟩, by omega, rfl⟩, fun x => ?_, ?_⟩
 ·unfold mapD
  rw [Maps.has_eq, List.any_eq_true]
  constructor
  ·rintro ⟨p, hp, hs'⟩
   obtain ⟨e, he', rfl⟩ := List.mem_map.1 (mem_sorted.1 hp)
   obtain ⟨r, hr, h1, h2⟩ := hrd e he'
   rw [rg_of h2] at hs'
   refine List.mem_map.2 ⟨r, hr, ?_⟩
   simpa [Lit.sameKey, eq_comm] using hs'
  ·intro hx
   obtain ⟨p, hp, rfl⟩ := List.mem_map.1 hx
   obtain ⟨j, hj⟩ := List.getElem?_of_mem hp
   have := Jv he (j := j)
   rw [hj] at this
   cases hm : es.toList[j]? with
   | none => rw [hm] at this; cases this
   | some e =>
    rw [hm] at this; simp at this
    have hme := List.mem_of_getElem? hm
    obtain ⟨r, hr, h1, h2⟩ := hrd e hme
    have hrp : r.1 = p.1 := by rw [this.1] at h1; simpa using h1.symm
    refine ⟨rg P k Fv e, mem_sorted.2 (List.mem_map.2 ⟨e, hme, rfl⟩), ?_⟩
    rw [rg_of h2, hrp]; simp [Lit.sameKey]
 ·unfold mapD
  rw [show (DataW.map (List.foldr DataW.insert [] (List.map (rg P k Fv) es.toList)) : DataW Unit) = _ from rfl, Maps.size, Go.length_sorted]; simp [hl]
theorem Ki {l l' : List Int} (h : l.Perm l') : B3 l = B3 l' :=
 List.Perm.eq_of_pairwise (le := (· ≤ ·)) (fun a b _ _ h1 h2 => Int.le_antisymm h1 h2) (H2 l) (H2 l') (((Bf l).trans h).trans (Bf l').symm)
def Coll (q : IntKind) (ks : List Int) (left : Lit → Bool) (ss : List Int) : Prop := ss.Nodup ∧ ∀ x, x ∈ ss ↔ (x ∈ ks ∧ left (.int q x) = false)
theorem Coll.start {q : IntKind} {ks : List Int} {D : DataW Unit} (h : ∀ x, Maps.has D (.int q x) = true ↔ x ∈ ks) : Coll q ks (Maps.has D) [] :=
 ⟨List.nodup_nil, fun x => ⟨fun h => by simp at h, fun ⟨h1, h2⟩ => by have := (h x).2 h1; rw [h2] at this; cases this⟩⟩
theorem Coll.step {q : IntKind} {ks : List Int} {left : Lit → Bool} {ss : List Int} (h : Coll q ks left ss) {x : Int} (hlk : left (.int q x) = true) (hx : x ∈ ks) : Coll q ks (fun z => left z && !z.sameKey (.int q x)) (ss ++ [x]) := by
 have hnew : x ∉ ss := fun hx' => by have := ((h.2 x).1 hx').2; rw [hlk] at this; cases this
 refine ⟨List.nodup_append.2 ⟨h.1, by simp, fun a ha b hb => by simp at hb; subst hb; exact fun e => hnew (e ▸ ha)⟩, fun y => ?_⟩
 by_cases hy : y = x
 ·subst hy; simp [hx, Lit.sameKey]
 ·simp [h.2 y, hy, Lit.sameKey]
theorem Coll.perm {q : IntKind} {ks : List Int} {left : Lit → Bool} {ss : List Int} (h : Coll q ks left ss) (hk : ks.Nodup) (hl : ∀ kl, left kl = false) : ss.Perm ks :=
 (List.perm_ext_iff_of_nodup h.1 hk).2 fun x => by rw [h.2 x, hl]; simp
theorem Nt {k : TypeId} {q : IntKind} (hk : P.underlying k = some (.int q)) {key : Value} {kl : Lit} (h : keyOf P k key = some kl) : ∃ x : Int, key = .int q x ∧ kl = .int q x := by
 cases key <;> simp [keyOf, hk, mapKey] at h
 rename_i q' a
 obtain ⟨⟨rfl, hw⟩, rfl⟩ := h
 exact ⟨a, rfl, rfl⟩
theorem Aa.of_calls {f : FuncId} {args : List Value} {w : World} {R : Ending → World → Prop} (hE : Enters P f)
  (h : ∀ w₀, A5 w w₀ → Calls P f args.toArray w₀ fun e w₀' => Below w₀.heap.size w₀ w₀' ∧ (Grew w (Cy w w₀') → R e (Cy w w₀'))) : Aa P f args w R := by
 refine .mk (.inl ⟨hE, fun w₀ hw => (h w₀ hw).mono ?_⟩)
 rintro e w₀' ⟨hb, hr⟩
 have hs : w.heap.size ≤ w₀'.heap.size := by rw [hw.size]; exact hb.size
 refine ⟨Cy w w₀', Hv hs, Iu hs (fun b hh => hb.block b (by rw [← hw.size]; exact lt_of_heap hh)), hr ⟨?_, ?_, ?_, by simp [Cy]; exact hs, fun b hlt => ?_⟩⟩
 ·show w₀'.os = w.os; rw [hb.os, hw.os]
 ·show w₀'.tape = w.tape; rw [hb.tape, hw.tape]
 ·show w₀'.output = w.output; rw [hb.output, hw.output]
 ·by_cases hh : w.heap[b]? = some hole
  ·rw [D2 hh hs, hh]
  ·rw [Be hh, hb.block b (by rw [← hw.size]; exact hlt)]
   rcases hw.block b with e | e
   ·exact e.symm
   ·exact absurd e hh
theorem Lm (q : IntKind) : ∀ ss : List Int, ss.flatMap (Enc.int q).f = ss.map (Value.int q)
 | [] => rfl
 | x :: ss => by rw [List.flatMap_cons, Lm q ss]; rfl
theorem O8 {w w₀ w₀' : World} {e : TypeId} {q : IntKind} {v : Value} {ss : List Int} (hw : A5 w w₀) (h : w₀'.ownsRow w₀.heap.size e 1 v ss.length (ss.map (Value.int q))) :
  ∃ a n c, v = .slice a n c ∧ Own (Cy w w₀') w.heap.size e (Enc.int q) a n c ss := by
 have hf : ss.flatMap (Enc.int q).f = ss.map (Value.int q) := Lm q ss
 rcases h.2 with ⟨rfl, h0⟩ | ⟨g, cap, cur, rfl, h1, h2, h3, h4, h5, h6⟩
 ·have : ss = [] := List.eq_nil_of_length_eq_zero h0
  subst this
  exact ⟨none, 0, 0, rfl, Own.nil _ _ _ _⟩
 ·refine ⟨some ⟨g, 0, none⟩, ss.length, cap, rfl, Own.mk' rfl (by rw [hw.size]; exact h1) ?_ h3 h4 h5 (by rw [hf]; exact h6)⟩
  have hn : w.heap[g]? ≠ some hole := by
   intro hh; have := lt_of_heap hh; rw [hw.size] at this; omega
  rw [Be hn]; exact h2
theorem Cq (W : World) (l : Nat) (o : Obj) : W.grownBy (W.putObj l o) (some l) :=
 ⟨rfl, rfl, rfl, by simp, fun k _ hk => World.putObj_heap_other (by rintro rfl; exact hk rfl)⟩
theorem O9 (W : World) (b : Nat) (v : Value) : W.grownBy (W.setCell ⟨b, 0, none⟩ v) (some b) :=
 ⟨rfl, rfl, rfl, (KeepsWalks.setCell W _ v).size, fun k _ hk => Below.heap_setCell _ _ _ k (by rintro rfl; exact hk rfl)⟩
theorem Me {W : World} {base : Nat} {e : TypeId} {size : Nat} {v : Value} {k : Nat} {xs : List Value} (h : W.ownsRow base e size v k xs) :
  v.ownBlock = none ∨ ∃ g cur, v.ownBlock = some g ∧ W.heap[g]? = some (.cells cur e (0, 0)) := by
 rcases h.2 with ⟨rfl, _⟩ | ⟨g, cap, cur, rfl, _, hg, _⟩
 ·exact .inl rfl
 ·exact .inr ⟨g, cur, rfl, hg⟩
theorem Cr {W : World} {base : Nat} {e : TypeId} {size : Nat} {v : Value} {k : Nat} {xs : List Value} (h : W.ownsRow base e size v k xs) {j : Nat} {o : Obj} (hj : W.heap[j]? = some o) (hno : ∀ cur, o ≠ .cells cur e (0, 0)) :
  v.ownBlock = none ∨ v.ownBlock ≠ some j := by
 rcases Me h with h1 | ⟨g, cur, h1, h2⟩
 ·exact .inl h1
 ·exact .inr fun e' => by rw [h1] at e'; cases e'; rw [h2] at hj; exact hno cur (Option.some.inj hj).symm
theorem Qx {W : World} {base : Nat} {e : TypeId} {size : Nat} {v : Value} {k : Nat} {xs : List Value} (h : W.ownsRow base e size v k xs) : ∀ (j : Nat) (o : Obj), v.ownBlock = some j → W.heap[j]? = some o → o.isWalk = false := by
 intro j o hj ho
 rcases Me h with h1 | ⟨g, cur, h1, h2⟩
 ·rw [h1] at hj; cases hj
 ·rw [h1] at hj; cases hj; rw [h2] at ho; cases ho; rfl
theorem Pb {W W' : World} {row : Option Nat} {base : Nat} {e : TypeId} {size : Nat} {v : Value} {k : Nat} {xs : List Value} (h : W.ownsRow base e size v k xs) (hg : W.grownBy W' row)
  (hrow : ∀ r, row = some r → ∃ o : Obj, W.heap[r]? = some o ∧ o.isWalk = true) : W'.ownsRow base e size v k xs := by
 refine h.kept hg ?_
 rcases Me h with h1 | ⟨g, cur, h1, h2⟩
 ·exact .inl h1
 ·refine .inr fun e' => ?_
  obtain ⟨o, ho, hw⟩ := hrow g (by rw [← e']; exact h1)
  rw [h2] at ho; cases ho; cases hw
theorem Hn {W : World} {B : Nat} {v : Value} {t : TypeId} (h : W.heap[B]? = some (.cells #[v] t (0, 0))) : W.cell? ⟨B, 0, none⟩ = some v ∧ W.frozen? ⟨B, 0, none⟩ = false := by
 constructor <;> simp [World.cell?, World.frozen?, h]
theorem Wr {W : World} {B : Nat} {v : Value} {t : TypeId} (v' : Value) (h : W.heap[B]? = some (.cells #[v] t (0, 0))) : (W.setCell ⟨B, 0, none⟩ v').heap[B]? = some (.cells #[v'] t (0, 0)) := by
 obtain ⟨hlt, hk⟩ := Array.getElem?_eq_some_iff.1 h
 show (W.heap.modify B _)[B]? = _
 rw [Array.getElem?_eq_getElem (by rw [Array.size_modify]; exact hlt), Array.getElem_modify_self, hk]
 rfl
end
end Go.Sx
