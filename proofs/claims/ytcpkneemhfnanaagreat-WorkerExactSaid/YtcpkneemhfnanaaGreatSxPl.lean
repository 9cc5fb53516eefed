/- Tables that are added: two rising lists merged hold what the map holds. Conditions: none. -/
import Derived.Test.YtcpkneemhfnanaaGreatSxVa
import Derived.Test.YtcpkneemhfnanaaGreatSxSr
import Derived.Test.YtcpkneemhfnanaaGreatSxX
namespace Go.Sx
set_option linter.unusedSimpArgs false
set_option linter.unusedVariables false
theorem Pf {m : Tab} (h : (m.map (·.1)).Nodup) {k : Int} {v : ValV} : ((setM m k v).map (·.1)).Nodup := by
 unfold setM
 split
 ·have : (m.map fun p => if (p.1 == k) = true then (k, v) else p).map (·.1) = m.map (·.1) := by
   rw [List.map_map]
   apply List.map_congr_left
   intro p hp
   simp only [Function.comp]
   by_cases hpk : p.1 = k
   ·rw [if_pos (by simpa using hpk)]; exact hpk.symm
   ·rw [if_neg (by simpa using hpk)]
  rw [this]; exact h
 ·rename_i hn
  rw [List.map_append, List.nodup_append]
  refine ⟨h, by simp, fun a ha b hb => ?_⟩
  simp at hb; subst hb
  rintro rfl
  obtain ⟨p, hp, he⟩ := List.mem_map.1 ha
  exact hn (List.any_eq_true.2 ⟨p, hp, by simpa using he⟩)
end Go.Sx
namespace Go.Sx
set_option linter.unusedVariables false
structure Bd where
 parts : Int
 stores : Int
 workers : Int
 ops : List OpV
 agg : Int
 batch : Int
 window : Int
 giveUp : Int
structure Plan where
 c : Bd
 o : Sl3
def Plan.vals (x : Plan) : List Value := [.int .i64 x.c.parts, .int .i64 x.c.stores, .int .i64 x.c.workers, .slice x.o.1 x.o.2.1 x.o.2.2, .int .i64 x.c.agg, .int .i64 x.c.batch, .int .i64 x.c.window, .int .i64 x.c.giveUp]
@[reducible] def Plan.val (x : Plan) : Value := .agg #[.int .i64 x.c.parts, .int .i64 x.c.stores, .int .i64 x.c.workers, .slice x.o.1 x.o.2.1 x.o.2.2, .int .i64 x.c.agg, .int .i64 x.c.batch, .int .i64 x.c.window, .int .i64 x.c.giveUp]
def Plan.At (w : World) (x : Plan) : Prop := Reads w Enc.op3 x.o x.c.ops
theorem Plan.At.grew {w w' : World} {x : Plan} (h : x.At w) (hg : Grew w w') : x.At w' := Reads.grew h hg
def Ig (p : Bd) : Bool := decide ((1 ≤ p.parts ∧ p.parts ≤ 4) ∧ (1 ≤ p.stores ∧ p.stores ≤ 4) ∧ (1 ≤ p.workers ∧ p.workers ≤ 4) ∧ (1 ≤ p.batch ∧ p.batch ≤ 16) ∧ (1 ≤ p.window ∧ p.window ≤ 4) ∧ (8 ≤ p.giveUp ∧ p.giveUp ≤ 64)) && Cz p.agg
def C0 (p : Bd) : Bool := Ig p && Aw p.ops
def Gj (p : Bd) : Int := if Ig p then (if Aw p.ops then 0 else 30) else 140
theorem Ci {p : Bd} : Gj p = 0 ↔ C0 p = true := by
 unfold Gj C0
 cases Ig p <;> cases Aw p.ops <;> simp
structure Nb (p : Bd) : Prop where
 parts : 1 ≤ p.parts ∧ p.parts ≤ 4
 stores : 1 ≤ p.stores ∧ p.stores ≤ 4
 workers : 1 ≤ p.workers ∧ p.workers ≤ 4
 batch : 1 ≤ p.batch ∧ p.batch ≤ 16
 window : 1 ≤ p.window ∧ p.window ≤ 4
 giveUp : 8 ≤ p.giveUp ∧ p.giveUp ≤ 64
 agg : Cz p.agg = true
 ops : Aw p.ops = true
theorem C1 {p : Bd} : C0 p = true ↔ Nb p := by
 unfold C0 Ig
 simp only [Bool.and_eq_true, decide_eq_true_eq]
 exact ⟨fun ⟨⟨⟨a, b, c, d, e, f⟩, g⟩, h⟩ => ⟨a, b, c, d, e, f, g, h⟩, fun h => ⟨⟨⟨h.parts, h.stores, h.workers, h.batch, h.window, h.giveUp⟩, h.agg⟩, h.ops⟩⟩
def E7 (p : Bd) : Int := if C0 p then 1 + p.workers + p.stores else 0
def Ax (p : Bd) (n : Int) : Int := if n < 0 ∨ E7 p ≤ n then 0 else if n = 0 then 1 else if n < 1 + p.workers then 2 else 3
def R8 (p : Bd) (key : Int) : Int := 1 + p.workers + key % p.stores
def A3 (p : Bd) : List Int := (List.range p.stores.toNat).map fun (i : Nat) => 1 + p.workers + (i : Int)
def Nc (stores : Int) (t : List Am) (i : Nat) : List Am := t.filter fun x => x.key % stores == (i : Int)
def Gx (stores : Int) (t : List Am) : List (List Am) := (List.range stores.toNat).map fun i => Nc stores t i
theorem E8 (stores : Int) (t : List Am) : (Gx stores t).length = stores.toNat := by simp [Gx]
theorem Ho {stores : Int} {t : List Am} {i : Nat} (h : i < stores.toNat) : (Gx stores t)[i]? = some (Nc stores t i) := by
 unfold Gx; rw [List.getElem?_map, List.getElem?_range h]; rfl
theorem Pg (stores : Int) (t : List Am) (x : Am) (i : Nat) : Nc stores (t ++ [x]) i = if x.key % stores = (i : Int) then Nc stores t i ++ [x] else Nc stores t i := by
 unfold Nc
 rw [List.filter_append]
 by_cases h : x.key % stores = (i : Int)
 ·rw [if_pos h, List.filter_cons_of_pos (by simpa using h)]; rfl
 ·rw [if_neg h, List.filter_cons_of_neg (by simpa using h)]; simp
theorem Mg (stores : Int) (t : List Am) (i : Nat) : (Nc stores t i).length ≤ t.length := List.length_filter_le _ _
theorem Cj (p : Bd) : (A3 p).length = p.stores.toNat := by simp [A3]
theorem C6 {p : Bd} {i : Nat} (h : i < p.stores.toNat) : (A3 p)[i]? = some (1 + p.workers + (i : Int)) := by
 unfold A3; rw [List.getElem?_map, List.getElem?_range h]; rfl
def Ph (v : SrcV) : Nat → List Int → Bool
 | _, [] => true
 | i, e :: l => decide (0 ≤ e ∧ e ≤ v.len (i : Int)) && Ph v (i + 1) l
theorem Pi {v : SrcV} : ∀ {l : List Int} {k : Nat}, Ph v k l = true ↔ ∀ (i : Nat) (e : Int), l[i]? = some e → 0 ≤ e ∧ e ≤ v.len ((k + i : Nat) : Int)
 | [], k => by simp [Ph]
 | a :: l, k => by
  rw [Ph, Bool.and_eq_true, decide_eq_true_eq, Pi]
  constructor
  ·rintro ⟨h1, h2⟩ i e he
   cases i with
   | zero => cases he; exact h1
   | succ i => have := h2 i e (by simpa using he); rwa [show k + 1 + i = k + (i + 1) from by omega] at this
  ·intro h
   refine ⟨h 0 a rfl, fun i e he => ?_⟩
   have := h (i + 1) e (by simpa using he)
   rwa [show k + (i + 1) = k + 1 + i from by omega] at this
def C7 (v : SrcV) (l : List Int) : Int := if l.length = v.parts.length ∧ Ph v 0 l = true then 0 else 70
theorem C2 {v : SrcV} {l : List Int} : C7 v l = 0 ↔ l.length = v.parts.length ∧ ∀ (i : Nat) (e : Int), l[i]? = some e → 0 ≤ e ∧ e ≤ v.len i := by
 have h := Pi (v := v) (l := l) (k := 0)
 simp only [Nat.zero_add] at h
 unfold C7
 rw [← h]
 split <;> simp_all
theorem Mh {v : SrcV} {l : List Int} (h : C7 v l ≠ 0) : C7 v l = 70 := by
 unfold C7 at *; split <;> simp_all
def btwI (v : SrcV) (f t : List Int) (i : Nat) : List RecV := ((v.log i).take (t.getD i 0).toNat).drop (f.getD i 0).toNat
def btwV (v : SrcV) (f t : List Int) (n : Nat) : List RecV := (List.range n).flatMap (btwI v f t)
theorem Jy (v : SrcV) (f t : List Int) (n : Nat) : btwV v f t (n + 1) = btwV v f t n ++ btwI v f t n := by
 unfold btwV; rw [List.range_succ, List.flatMap_append]; simp
theorem Pj {v : SrcV} (p : Int) : ((v.log p).length : Int) = v.len p := by
 unfold SrcV.log SrcV.len; split <;> simp
theorem Ln {v : SrcV} (h : v.Fits) (p : Int) : (v.log p).length ≤ 256 ∧ ∀ r ∈ v.log p, r.Fits := by
 unfold SrcV.log
 cases hp : v.getP p with
 | none => simp
 | some q => exact h.logs q (List.mem_of_getElem? (A4 hp).2.2)
theorem R9 {v : SrcV} (h : v.Fits) (p : Int) : 0 ≤ v.len p ∧ v.len p ≤ 256 := by
 have := Pj (v := v) p; have := (Ln h p).1; omega
theorem Pk {v : SrcV} (h : v.Fits) (f t : List Int) (i : Nat) : (btwI v f t i).length ≤ 256 := by
 unfold btwI
 have := (Ln h i).1
 rw [List.length_drop, List.length_take]; omega
theorem Pm {v : SrcV} (h : v.Fits) (f t : List Int) : ∀ n, (btwV v f t n).length ≤ 256 * n
 | 0 => by simp [btwV]
 | n + 1 => by rw [Jy, List.length_append]; have := Pm h f t n; have := Pk h f t n; omega
theorem Mi {v : SrcV} (h : v.Fits) (f t : List Int) (n : Nat) : ∀ r ∈ btwV v f t n, r.Fits := by
 intro r hr
 obtain ⟨i, -, hi⟩ := List.mem_flatMap.1 hr
 exact (Ln h i).2 r (List.mem_of_mem_take (List.mem_of_mem_drop hi))
def toI (v : SrcV) (most : Int) (i : Nat) (e : Int) : Int := if v.up i then min (e + most) (v.len i) else e
def toV (v : SrcV) (most : Int) (f : List Int) : List Int := f.mapIdx (toI v most)
theorem D9 (v : SrcV) (most : Int) (f : List Int) : (toV v most f).length = f.length := by simp [toV]
theorem Jz {v : SrcV} {most : Int} {f : List Int} {i : Nat} {e : Int} (h : f[i]? = some e) : (toV v most f)[i]? = some (toI v most i e) := by
 unfold toV; rw [List.getElem?_mapIdx, h]; rfl
structure Aef where
 to : List Int
 recs : List RecV
 err : Int
def Bp (v : SrcV) (f : List Int) (most : Int) : Aef :=
 if most < 1 ∨ 16 < most then ⟨[], [], 1⟩ else if C7 v f = 0 then ⟨toV v most f, btwV v f (toV v most f) f.length, 0⟩ else ⟨[], [], 70⟩
section
variable {tP : TypeId}
structure Dq (tP : TypeId) (w : World) (B : Nat) (hs : List Sl3) (ls : List (List Am)) : Prop where
 len : hs.length = ls.length
 own : ∀ (i : Nat) h l, hs[i]? = some h → ls[i]? = some l → Own w B tP Enc.pair h.1 h.2.1 h.2.2 l
 apart : ∀ (i j : Nat) h k, i ≠ j → hs[i]? = some h → hs[j]? = some k → ∀ b, Blk h.1 b → ¬ Blk k.1 b
def Pn (hs : List Sl3) (b : Nat) : Prop := ∃ h ∈ hs, Blk h.1 b
theorem Dq.upd {S : Nat → Prop} {w w' : World} {B : Nat} {hs : List Sl3} {ls : List (List Am)} (h : Dq tP w B hs ls) (hu : Upd S w w') (hn : ∀ b, Pn hs b → ¬ S b) : Dq tP w' B hs ls :=
 ⟨h.len, fun i k l h1 h2 => (h.own i k l h1 h2).upd hu fun b hb => hn b ⟨k, List.mem_of_getElem? h1, hb⟩, h.apart⟩
theorem Dq.grew {w w' : World} {B : Nat} {hs : List Sl3} {ls : List (List Am)} (h : Dq tP w B hs ls) (hg : Grew w w') : Dq tP w' B hs ls := ⟨h.len, fun i k l h1 h2 => (h.own i k l h1 h2).grew hg, h.apart⟩
theorem Dq.base {w : World} {B B' : Nat} {hs : List Sl3} {ls : List (List Am)} (h : Dq tP w B hs ls) (hb : B' ≤ B) : Dq tP w B' hs ls := ⟨h.len, fun i k l h1 h2 => (h.own i k l h1 h2).base hb, h.apart⟩
theorem Dq.feet {w : World} {B : Nat} {hs : List Sl3} {ls : List (List Am)} (h : Dq tP w B hs ls) {b : Nat} (hb : Pn hs b) : B ≤ b ∧ b < w.heap.size := by
 obtain ⟨k, hk, hb⟩ := hb
 obtain ⟨i, hi⟩ := List.getElem?_of_mem hk
 have hl : i < ls.length := by rw [← h.len]; exact (List.getElem?_eq_some_iff.1 hi).1
 exact (h.own i k _ hi (List.getElem?_eq_getElem hl)).blk hb
theorem Dq.obj {w : World} {B : Nat} {hs : List Sl3} {ls : List (List Am)} (h : Dq tP w B hs ls) {b : Nat} (hb : Pn hs b) : ∃ cur, w.heap[b]? = some (.cells cur tP (0, 0)) := by
 obtain ⟨k, hk, hb⟩ := hb
 obtain ⟨i, hi⟩ := List.getElem?_of_mem hk
 have hl : i < ls.length := by rw [← h.len]; exact (List.getElem?_eq_some_iff.1 hi).1
 exact (h.own i k _ hi (List.getElem?_eq_getElem hl)).objC hb
end
end Go.Sx
