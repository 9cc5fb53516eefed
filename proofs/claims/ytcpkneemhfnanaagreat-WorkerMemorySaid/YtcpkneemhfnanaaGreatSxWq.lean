import Derived.Test.YtcpkneemhfnanaaGreatSxSt
import Derived.Test.YtcpkneemhfnanaaGreatSxVg
import Derived.Test.YtcpkneemhfnanaaGreatSxR
import Derived.Test.YtcpkneemhfnanaaGreatSxNa
/- Plans, who is who, tables dealt out; ends of a source. Conditions: none. -/
namespace Go.Sx
set_option linter.unusedVariables false

structure PlanV where
  parts : Int
  stores : Int
  workers : Int
  ops : List OpV
  agg : Int
  batch : Int
  window : Int
  giveUp : Int
structure Plan where
  c : PlanV
  o : Sl3
def Plan.vals (x : Plan) : List Value := [.int .i64 x.c.parts, .int .i64 x.c.stores, .int .i64 x.c.workers, .slice x.o.1 x.o.2.1 x.o.2.2, .int .i64 x.c.agg, .int .i64 x.c.batch, .int .i64 x.c.window, .int .i64 x.c.giveUp]
@[reducible] def Plan.val (x : Plan) : Value := .agg #[.int .i64 x.c.parts, .int .i64 x.c.stores, .int .i64 x.c.workers, .slice x.o.1 x.o.2.1 x.o.2.2, .int .i64 x.c.agg, .int .i64 x.c.batch, .int .i64 x.c.window, .int .i64 x.c.giveUp]
def Plan.At (w : World) (x : Plan) : Prop := Reads w Enc.op3 x.o x.c.ops
theorem Plan.At.grew {w w' : World} {x : Plan} (h : x.At w) (hg : Grew w w') : x.At w' := Reads.grew h hg
def numsB (p : PlanV) : Bool := decide ((1 ≤ p.parts ∧ p.parts ≤ 4) ∧ (1 ≤ p.stores ∧ p.stores ≤ 4) ∧ (1 ≤ p.workers ∧ p.workers ≤ 4) ∧ (1 ≤ p.batch ∧ p.batch ≤ 16) ∧ (1 ≤ p.window ∧ p.window ≤ 4) ∧ (8 ≤ p.giveUp ∧ p.giveUp ≤ 64)) && knownB p.agg
def goodP (p : PlanV) : Bool := numsB p && checkB p.ops
def checkP (p : PlanV) : Int := if numsB p then (if checkB p.ops then 0 else 30) else 140
theorem checkP_good {p : PlanV} : checkP p = 0 ↔ goodP p = true := by
  unfold checkP goodP
  cases numsB p <;> cases checkB p.ops <;> simp
structure GoodP (p : PlanV) : Prop where
  parts : 1 ≤ p.parts ∧ p.parts ≤ 4
  stores : 1 ≤ p.stores ∧ p.stores ≤ 4
  workers : 1 ≤ p.workers ∧ p.workers ≤ 4
  batch : 1 ≤ p.batch ∧ p.batch ≤ 16
  window : 1 ≤ p.window ∧ p.window ≤ 4
  giveUp : 8 ≤ p.giveUp ∧ p.giveUp ≤ 64
  agg : knownB p.agg = true
  ops : checkB p.ops = true
theorem goodP_iff {p : PlanV} : goodP p = true ↔ GoodP p := by
  unfold goodP numsB
  simp only [Bool.and_eq_true, decide_eq_true_eq]
  exact ⟨fun ⟨⟨⟨a, b, c, d, e, f⟩, g⟩, h⟩ => ⟨a, b, c, d, e, f, g, h⟩, fun h => ⟨⟨⟨h.parts, h.stores, h.workers, h.batch, h.window, h.giveUp⟩, h.agg⟩, h.ops⟩⟩
def nodesP (p : PlanV) : Int := if goodP p then 1 + p.workers + p.stores else 0
def kindP (p : PlanV) (n : Int) : Int := if n < 0 ∨ nodesP p ≤ n then 0 else if n = 0 then 1 else if n < 1 + p.workers then 2 else 3
def storeP (p : PlanV) (key : Int) : Int := 1 + p.workers + key % p.stores
/-- the nodes of the stores -/
def storesP (p : PlanV) : List Int := (List.range p.stores.toNat).map fun (i : Nat) => 1 + p.workers + (i : Int)
def dealI (stores : Int) (t : List PairV) (i : Nat) : List PairV := t.filter fun x => x.key % stores == (i : Int)
def dealP (stores : Int) (t : List PairV) : List (List PairV) := (List.range stores.toNat).map fun i => dealI stores t i
theorem dealP_len (stores : Int) (t : List PairV) : (dealP stores t).length = stores.toNat := by simp [dealP]
theorem dealP_get {stores : Int} {t : List PairV} {i : Nat} (h : i < stores.toNat) : (dealP stores t)[i]? = some (dealI stores t i) := by
  unfold dealP; rw [List.getElem?_map, List.getElem?_range h]; rfl
theorem dealI_snoc (stores : Int) (t : List PairV) (x : PairV) (i : Nat) : dealI stores (t ++ [x]) i = if x.key % stores = (i : Int) then dealI stores t i ++ [x] else dealI stores t i := by
  unfold dealI
  rw [List.filter_append]
  by_cases h : x.key % stores = (i : Int)
  · rw [if_pos h, List.filter_cons_of_pos (by simpa using h)]; rfl
  · rw [if_neg h, List.filter_cons_of_neg (by simpa using h)]; simp
theorem dealI_len (stores : Int) (t : List PairV) (i : Nat) : (dealI stores t i).length ≤ t.length := List.length_filter_le _ _
theorem storesP_len (p : PlanV) : (storesP p).length = p.stores.toNat := by simp [storesP]
theorem storesP_get {p : PlanV} {i : Nat} (h : i < p.stores.toNat) : (storesP p)[i]? = some (1 + p.workers + (i : Int)) := by
  unfold storesP; rw [List.getElem?_map, List.getElem?_range h]; rfl

/-! ### ends -/
def endsB' (v : SrcV) : Nat → List Int → Bool
  | _, [] => true
  | i, e :: l => decide (0 ≤ e ∧ e ≤ v.len (i : Int)) && endsB' v (i + 1) l
theorem endsB'_iff {v : SrcV} : ∀ {l : List Int} {k : Nat}, endsB' v k l = true ↔ ∀ (i : Nat) (e : Int), l[i]? = some e → 0 ≤ e ∧ e ≤ v.len ((k + i : Nat) : Int)
  | [], k => by simp [endsB']
  | a :: l, k => by
    rw [endsB', Bool.and_eq_true, decide_eq_true_eq, endsB'_iff]
    constructor
    · rintro ⟨h1, h2⟩ i e he
      cases i with
      | zero => cases he; exact h1
      | succ i => have := h2 i e (by simpa using he); rwa [show k + 1 + i = k + (i + 1) from by omega] at this
    · intro h
      refine ⟨h 0 a rfl, fun i e he => ?_⟩
      have := h (i + 1) e (by simpa using he)
      rwa [show k + (i + 1) = k + 1 + i from by omega] at this
def endsE (v : SrcV) (l : List Int) : Int := if l.length = v.parts.length ∧ endsB' v 0 l = true then 0 else 70
theorem endsE_ok {v : SrcV} {l : List Int} : endsE v l = 0 ↔ l.length = v.parts.length ∧ ∀ (i : Nat) (e : Int), l[i]? = some e → 0 ≤ e ∧ e ≤ v.len i := by
  have h := endsB'_iff (v := v) (l := l) (k := 0)
  simp only [Nat.zero_add] at h
  unfold endsE
  rw [← h]
  split <;> simp_all
theorem endsE_bad {v : SrcV} {l : List Int} (h : endsE v l ≠ 0) : endsE v l = 70 := by
  unfold endsE at *; split <;> simp_all
def forwB : List Int → List Int → Bool
  | [], [] => true
  | a :: l, b :: r => decide (a ≤ b) && forwB l r
  | _, _ => false
theorem forwB_iff : ∀ {l r : List Int}, forwB l r = true ↔ l.length = r.length ∧ ∀ (i : Nat) (a b : Int), l[i]? = some a → r[i]? = some b → a ≤ b
  | [], [] => by simp [forwB]
  | [], b :: r => by simp [forwB]
  | a :: l, [] => by simp [forwB]
  | a :: l, b :: r => by
    rw [forwB, Bool.and_eq_true, decide_eq_true_eq, forwB_iff, List.length_cons, List.length_cons]
    constructor
    · rintro ⟨h1, h2, h3⟩
      refine ⟨by omega, fun i x y hx hy => ?_⟩
      cases i with
      | zero => simp at hx hy; omega
      | succ i => exact h3 i x y (by simpa using hx) (by simpa using hy)
    · rintro ⟨h1, h2⟩
      exact ⟨h2 0 a b rfl rfl, by omega, fun i x y hx hy => h2 (i + 1) x y (by simpa using hx) (by simpa using hy)⟩
/-- the records of the parts ahead of i, between two ends -/
def btwI (v : SrcV) (f t : List Int) (i : Nat) : List RecV := ((v.log i).take (t.getD i 0).toNat).drop (f.getD i 0).toNat
def btwV (v : SrcV) (f t : List Int) (n : Nat) : List RecV := (List.range n).flatMap (btwI v f t)
theorem btwV_succ (v : SrcV) (f t : List Int) (n : Nat) : btwV v f t (n + 1) = btwV v f t n ++ btwI v f t n := by
  unfold btwV; rw [List.range_succ, List.flatMap_append]; simp
theorem log_lenP {v : SrcV} (p : Int) : ((v.log p).length : Int) = v.len p := by
  unfold SrcV.log SrcV.len; split <;> simp
theorem log_256 {v : SrcV} (h : v.Fits) (p : Int) : (v.log p).length ≤ 256 ∧ ∀ r ∈ v.log p, r.Fits := by
  unfold SrcV.log
  cases hp : v.getP p with
  | none => simp
  | some q => exact h.logs q (List.mem_of_getElem? (getP_some hp).2.2)
theorem len_256 {v : SrcV} (h : v.Fits) (p : Int) : 0 ≤ v.len p ∧ v.len p ≤ 256 := by
  have := log_lenP (v := v) p; have := (log_256 h p).1; omega
theorem btwI_len {v : SrcV} (h : v.Fits) (f t : List Int) (i : Nat) : (btwI v f t i).length ≤ 256 := by
  unfold btwI
  have := (log_256 h i).1
  rw [List.length_drop, List.length_take]; omega
theorem btwV_len {v : SrcV} (h : v.Fits) (f t : List Int) : ∀ n, (btwV v f t n).length ≤ 256 * n
  | 0 => by simp [btwV]
  | n + 1 => by rw [btwV_succ, List.length_append]; have := btwV_len h f t n; have := btwI_len h f t n; omega
theorem btwV_fits {v : SrcV} (h : v.Fits) (f t : List Int) (n : Nat) : ∀ r ∈ btwV v f t n, r.Fits := by
  intro r hr
  obtain ⟨i, -, hi⟩ := List.mem_flatMap.1 hr
  exact (log_256 h i).2 r (List.mem_of_mem_take (List.mem_of_mem_drop hi))
/-- where a batch ends in a part -/
def toI (v : SrcV) (most : Int) (i : Nat) (e : Int) : Int := if v.up i then min (e + most) (v.len i) else e
def toV (v : SrcV) (most : Int) (f : List Int) : List Int := f.mapIdx (toI v most)
theorem toV_len (v : SrcV) (most : Int) (f : List Int) : (toV v most f).length = f.length := by simp [toV]
theorem toV_get {v : SrcV} {most : Int} {f : List Int} {i : Nat} {e : Int} (h : f[i]? = some e) : (toV v most f)[i]? = some (toI v most i e) := by
  unfold toV; rw [List.getElem?_mapIdx, h]; rfl
structure FormV where
  to : List Int
  recs : List RecV
  err : Int
def formV (v : SrcV) (f : List Int) (most : Int) : FormV :=
  if most < 1 ∨ 16 < most then ⟨[], [], 1⟩ else if endsE v f = 0 then ⟨toV v most f, btwV v f (toV v most f) f.length, 0⟩ else ⟨[], [], 70⟩
section
variable {tP : TypeId}
/-- tables side by side, each its own -/
structure Deals (tP : TypeId) (w : World) (B : Nat) (hs : List Sl3) (ls : List (List PairV)) : Prop where
  len : hs.length = ls.length
  own : ∀ (i : Nat) h l, hs[i]? = some h → ls[i]? = some l → Own w B tP Enc.pair h.1 h.2.1 h.2.2 l
  apart : ∀ (i j : Nat) h k, i ≠ j → hs[i]? = some h → hs[j]? = some k → ∀ b, Blk h.1 b → ¬ Blk k.1 b
def HFeet (hs : List Sl3) (b : Nat) : Prop := ∃ h ∈ hs, Blk h.1 b
theorem Deals.upd {S : Nat → Prop} {w w' : World} {B : Nat} {hs : List Sl3} {ls : List (List PairV)} (h : Deals tP w B hs ls) (hu : Upd S w w') (hn : ∀ b, HFeet hs b → ¬ S b) : Deals tP w' B hs ls :=
  ⟨h.len, fun i k l h1 h2 => (h.own i k l h1 h2).upd hu fun b hb => hn b ⟨k, List.mem_of_getElem? h1, hb⟩, h.apart⟩
theorem Deals.grew {w w' : World} {B : Nat} {hs : List Sl3} {ls : List (List PairV)} (h : Deals tP w B hs ls) (hg : Grew w w') : Deals tP w' B hs ls := ⟨h.len, fun i k l h1 h2 => (h.own i k l h1 h2).grew hg, h.apart⟩
theorem Deals.base {w : World} {B B' : Nat} {hs : List Sl3} {ls : List (List PairV)} (h : Deals tP w B hs ls) (hb : B' ≤ B) : Deals tP w B' hs ls := ⟨h.len, fun i k l h1 h2 => (h.own i k l h1 h2).base hb, h.apart⟩
theorem Deals.feet {w : World} {B : Nat} {hs : List Sl3} {ls : List (List PairV)} (h : Deals tP w B hs ls) {b : Nat} (hb : HFeet hs b) : B ≤ b ∧ b < w.heap.size := by
  obtain ⟨k, hk, hb⟩ := hb
  obtain ⟨i, hi⟩ := List.getElem?_of_mem hk
  have hl : i < ls.length := by rw [← h.len]; exact (List.getElem?_eq_some_iff.1 hi).1
  exact (h.own i k _ hi (List.getElem?_eq_getElem hl)).blk hb
theorem Deals.obj {w : World} {B : Nat} {hs : List Sl3} {ls : List (List PairV)} (h : Deals tP w B hs ls) {b : Nat} (hb : HFeet hs b) : ∃ cur, w.heap[b]? = some (.cells cur tP (0, 0)) := by
  obtain ⟨k, hk, hb⟩ := hb
  obtain ⟨i, hi⟩ := List.getElem?_of_mem hk
  have hl : i < ls.length := by rw [← h.len]; exact (List.getElem?_eq_some_iff.1 hi).1
  exact (h.own i k _ hi (List.getElem?_eq_getElem hl)).objC hb
end
end Go.Sx
/- A worker and its attempts: in lists, and in memory. Conditions: none. -/
namespace Go.Sx
set_option linter.unusedVariables false

theorem Row.at {w : World} {g : Nat} {e : TypeId} {cs : List Value} (h : Row w g e cs) (o n : Nat) : CellsAt w ⟨g, o, none⟩ 0 ((cs.drop o).take n) := by
  refine cellsAt_mk h o _ 0 fun j v hj => ?_
  rw [List.getElem?_take, List.getElem?_drop] at hj
  split at hj
  · simpa using hj
  · cases hj
structure AttV where
  number : Int
  ends : List Int
  pairs : List (List PairV)
  begun : Bool
  applied : List Int
structure WorkV where
  plan : PlanV
  node : Int
  held : List (Int × AttV)
def WorkV.say (V : WorkV) (m : MsgV) (kind to : Int) : MsgV := ⟨kind, V.node, to, m.batch, m.att, 0, [], [], []⟩
def WorkV.find (V : WorkV) (m : MsgV) : Option AttV := match getM V.held m.batch with
  | some a => if a.number = m.att then some a else none
  | none => none
def WorkV.setA (V : WorkV) (k : Int) (a : AttV) : WorkV := { V with held := setM V.held k a }
def WorkV.newA (V : WorkV) (s : SrcV) (m : MsgV) : AttV :=
  ⟨m.att, (formV s m.ends V.plan.batch).to, dealP V.plan.stores (tableT (bAll V.plan.ops V.plan.agg (formV s m.ends V.plan.batch).recs).1), false, []⟩
def WorkV.stale (V : WorkV) (m : MsgV) : Bool := match getM V.held m.batch with
  | some a => decide (m.att ≤ a.number)
  | none => false
def WorkV.assign (V : WorkV) (s : SrcV) (m : MsgV) : WorkV × List MsgV :=
  if V.stale m = true then (V, []) else
    if (formV s m.ends V.plan.batch).err ≠ 0 then (V, []) else
      (V.setA m.batch (V.newA s m), [{ V.say m 2 0 with ends := (formV s m.ends V.plan.batch).to }])
def WorkV.begins (V : WorkV) (m : MsgV) (a : AttV) (i : Nat) : MsgV := { V.say m 4 (1 + V.plan.workers + (i : Int)) with keys := (a.pairs.getD i []).map (·.key) }
def WorkV.begin (V : WorkV) (m : MsgV) : WorkV × List MsgV := match V.find m with
  | none => (V, [])
  | some a => if a.begun = true ∨ a.ends ≠ m.ends then (V, []) else (V.setA m.batch { a with begun := true }, (List.range V.plan.stores.toNat).map (V.begins m a))
def addN (l : List Int) (k : Int) : List Int := if k ∈ l then l else l ++ [k]
def WorkV.answer (V : WorkV) (m : MsgV) : WorkV × List MsgV := match V.find m with
  | none => (V, [])
  | some a => if a.begun = false then (V, []) else if m.code ≠ 0 then ({ V with held := delM V.held m.batch }, []) else
    if m.kind = 5 then (V, [{ V.say m 6 m.frm with pairs := a.pairs.getD (m.frm - 1 - V.plan.workers).toNat [] }]) else
      (V.setA m.batch { a with applied := addN a.applied m.frm }, if ((addN a.applied m.frm).length : Int) < V.plan.stores then [] else [{ V.say m 8 0 with ends := a.ends }])
structure TookV where
  w : WorkV
  l : List MsgV
  e : Int
def TookV.of (x : WorkV × List MsgV) : TookV := ⟨x.1, x.2, 0⟩
def WorkV.take (V : WorkV) (s : SrcV) (m : MsgV) : TookV :=
  if soundMsg m = false then ⟨V, [], 150⟩ else if m.to ≠ V.node then ⟨V, [], 170⟩ else
    if m.kind = 1 ∧ kindP V.plan m.frm = 1 then .of (V.assign s m) else
      if m.kind = 3 ∧ kindP V.plan m.frm = 1 then .of (V.begin m) else
        if (m.kind = 5 ∨ m.kind = 7) ∧ kindP V.plan m.frm = 3 then .of (V.answer m) else ⟨V, [], 0⟩
structure HeldV where
  batch : Int
  att : Int
  ends : List Int
  begun : Bool
  applied : Int
def heldOf (k : Int) (a : AttV) : HeldV := ⟨k, a.number, a.ends, a.begun, a.applied.length⟩
def att0 : AttV := ⟨0, [], [], false, []⟩
def WorkV.tell (V : WorkV) : List HeldV := (sortL (V.held.map (·.1))).map fun k => heldOf k ((getM V.held k).getD att0)

structure AttV.Ok (p : PlanV) (a : AttV) : Prop where
  ends : a.ends.length ≤ 4 ∧ ∀ e ∈ a.ends, 0 ≤ e ∧ e ≤ 256
  num : a.pairs.length = p.stores.toNat
  pairs : ∀ l ∈ a.pairs, l.length ≤ 64 ∧ ∀ x ∈ l, x.Fits
  app : a.applied.Nodup ∧ ∀ k ∈ a.applied, k ∈ storesP p
structure WorkV.Ok (V : WorkV) : Prop where
  good : GoodP V.plan
  ops : ∀ o ∈ V.plan.ops, o.Fits
  node : 0 ≤ V.node ∧ V.node ≤ 8
  atts : ∀ q ∈ V.held, q.2.Ok V.plan
  keys : ∀ q ∈ V.held, 1 ≤ q.1 ∧ q.1 ≤ 1099511627776

/-! ### lists of keys and things -/
section
variable {α β : Type}
theorem setM_map (f : α → β) (m : List (Int × α)) (k : Int) (x : α) : (setM m k x).map (fun q => (q.1, f q.2)) = setM (m.map fun q => (q.1, f q.2)) k (f x) := by
  unfold setM
  have e : (m.map fun q => (q.1, f q.2)).any (fun p => p.1 == k) = m.any (fun p => p.1 == k) := by rw [List.any_map]; rfl
  rw [e]
  split
  · rw [List.map_map, List.map_map]
    apply List.map_congr_left
    intro q _
    show (fun q : Int × α => (q.1, f q.2)) (if q.1 == k then (k, x) else q) = if q.1 == k then (k, f x) else (q.1, f q.2)
    by_cases h : (q.1 == k) = true
    · rw [if_pos h, if_pos h]
    · rw [if_neg h, if_neg h]
  · rw [List.map_append]; rfl
theorem delM_map (f : α → β) (m : List (Int × α)) (k : Int) : (delM m k).map (fun q => (q.1, f q.2)) = delM (m.map fun q => (q.1, f q.2)) k := by
  unfold delM; rw [List.filter_map]; rfl
theorem getM_map (f : α → β) (m : List (Int × α)) (k : Int) : getM (m.map fun q => (q.1, f q.2)) k = (getM m k).map f := by
  unfold getM; rw [List.find?_map]
  have e : ((fun p : Int × β => p.1 == k) ∘ fun q : Int × α => (q.1, f q.2)) = fun p => p.1 == k := rfl
  rw [e]
  cases m.find? (fun p => p.1 == k) <;> rfl
theorem setM_sub {m : List (Int × α)} {k : Int} {x : α} : ∀ q ∈ setM m k x, q = (k, x) ∨ (q ∈ m ∧ q.1 ≠ k) := by
  intro q hq
  unfold setM at hq
  split at hq
  · obtain ⟨y, hy, rfl⟩ := List.mem_map.1 hq
    by_cases h : (y.1 == k) = true
    · rw [if_pos h]; exact .inl rfl
    · rw [if_neg h]; exact .inr ⟨hy, by simpa using h⟩
  · rename_i h
    rcases List.mem_append.1 hq with h1 | h1
    · refine .inr ⟨h1, fun e => h ?_⟩
      rw [List.any_eq_true]; exact ⟨q, h1, by simpa using e⟩
    · simp at h1; exact .inl h1
theorem delM_mem {m : List (Int × α)} {k : Int} : ∀ q ∈ delM m k, q ∈ m ∧ q.1 ≠ k := by
  intro q hq
  unfold delM at hq
  rw [List.mem_filter] at hq
  exact ⟨hq.1, by simpa using hq.2⟩
theorem getM_inM {m : List (Int × α)} {k : Int} {x : α} (h : getM m k = some x) : (k, x) ∈ m := by
  unfold getM at h
  rw [Option.map_eq_some_iff] at h
  obtain ⟨y, hy, rfl⟩ := h
  have h1 := List.find?_some hy
  have h2 := List.mem_of_find?_eq_some hy
  simp only [beq_iff_eq] at h1
  subst h1; exact h2
theorem uniqM {m : List (Int × α)} (hn : (m.map (·.1)).Nodup) {k : Int} {x y : α} (hx : (k, x) ∈ m) (hy : (k, y) ∈ m) : x = y := by
  induction m with
  | nil => cases hx
  | cons p m ih =>
    rw [List.map_cons, List.nodup_cons] at hn
    rcases List.mem_cons.1 hx with e1 | h1
    · rcases List.mem_cons.1 hy with e2 | h2
      · rw [← e2] at e1; exact (Prod.mk.inj e1).2
      · exact (hn.1 (by rw [← e1]; exact List.mem_map_of_mem (f := (·.1)) h2)).elim
    · rcases List.mem_cons.1 hy with e2 | h2
      · exact (hn.1 (by rw [← e2]; exact List.mem_map_of_mem (f := (·.1)) h1)).elim
      · exact ih hn.2 h1 h2
end

section
variable {α : Type}
theorem getM_zip : ∀ {ks : List Int} {ps : List α} {i : Nat} {k : Int} {x : α}, ks.Nodup → ks[i]? = some k → ps[i]? = some x → getM (ks.zip ps) k = some x
  | [], _, _, _, _, _, h, _ => by simp at h
  | _ :: _, [], _, _, _, _, _, h => by simp at h
  | a :: ks, y :: ps, i, k, x, hn, hk, hx => by
    rw [List.nodup_cons] at hn
    cases i with
    | zero =>
      simp only [List.getElem?_cons_zero, Option.some.injEq] at hk hx
      subst hk; subst hx
      unfold getM; rw [List.zip_cons_cons, List.find?_cons_of_pos (by simp)]; rfl
    | succ i =>
      rw [List.getElem?_cons_succ] at hk hx
      have hne : a ≠ k := fun e => hn.1 (by rw [e]; exact List.mem_of_getElem? hk)
      have := getM_zip hn.2 hk hx
      unfold getM at *
      rw [List.zip_cons_cons, List.find?_cons_of_neg (by simpa using hne)]; exact this
theorem zip_get {ks : List Int} {ps : List α} {i : Nat} {k : Int} {x : α} (hk : ks[i]? = some k) (hx : ps[i]? = some x) : (ks.zip ps)[i]? = some (k, x) := by
  rw [List.getElem?_zip_eq_some]; exact ⟨hk, hx⟩
end
theorem storesP_nodup (p : PlanV) : (storesP p).Nodup := by
  unfold storesP
  rw [List.Nodup, List.pairwise_map]
  exact List.nodup_range.imp fun h e => h (by omega)
theorem storesP_mem {p : PlanV} {k : Int} : k ∈ storesP p ↔ ∃ i : Nat, i < p.stores.toNat ∧ k = 1 + p.workers + (i : Int) := by
  unfold storesP
  rw [List.mem_map]
  constructor
  · rintro ⟨i, hi, rfl⟩; exact ⟨i, List.mem_range.1 hi, rfl⟩
  · rintro ⟨i, hi, rfl⟩; exact ⟨i, List.mem_range.2 hi, rfl⟩
theorem kindP_store {p : PlanV} (h : GoodP p) {k : Int} (h3 : kindP p k = 3) : ∃ i : Nat, i < p.stores.toNat ∧ k = 1 + p.workers + (i : Int) := by
  have hg : goodP p = true := goodP_iff.2 h
  have := h.workers; have := h.stores
  unfold kindP nodesP at h3
  rw [if_pos hg] at h3
  split at h3
  · cases h3
  · split at h3
    · cases h3
    · split at h3
      · cases h3
      · exact ⟨(k - 1 - p.workers).toNat, by omega, by omega⟩
theorem kindP_of {p : PlanV} (h : GoodP p) {k : Int} (h0 : 0 ≤ k) (h1 : k < 1 + p.workers + p.stores) : kindP p k = if k = 0 then 1 else if k < 1 + p.workers then 2 else 3 := by
  have hg : goodP p = true := goodP_iff.2 h
  unfold kindP nodesP
  rw [if_pos hg, if_neg (by omega)]
theorem stores_take {p : PlanV} (h : GoodP p) {k : Nat} (hk : (k : Int) < 1 + p.workers + p.stores) : (storesP p).take (k + 1 - (1 + p.workers).toNat) = if kindP p (k : Int) = 3 then (storesP p).take (k - (1 + p.workers).toNat) ++ [(k : Int)] else (storesP p).take (k - (1 + p.workers).toNat) := by
  have := h.workers; have := h.stores
  rw [kindP_of h (by omega) hk]
  by_cases h0 : (k : Int) < 1 + p.workers
  · have e1 : k + 1 - (1 + p.workers).toNat = 0 := by omega
    have e2 : k - (1 + p.workers).toNat = 0 := by omega
    rw [e1, e2]
    rw [if_neg]
    split
    · decide
    · decide
  · have hk0 : (k : Int) ≠ 0 := by omega
    rw [if_neg hk0, if_neg h0, if_pos rfl]
    have e1 : k + 1 - (1 + p.workers).toNat = (k - (1 + p.workers).toNat) + 1 := by omega
    rw [e1, take_snoc (x := (k : Int)) ?_]
    rw [storesP_get (by omega)]
    congr 1; omega

/-! ### in memory -/
structure AttX where
  b : Nat
  e : Sl3
  pm : Nat
  am : Nat
  ps : List Sl3
  c : AttV
def slF : Sl3 → Value := fun p => .slice p.1 p.2.1 p.2.2
def attF : AttX → Value := fun x => .pointer (some ⟨x.b, 0, none⟩)
def AFoot (x : AttX) (b : Nat) : Prop := b = x.b ∨ b = x.pm ∨ b = x.am ∨ Blk x.e.1 b ∨ HFeet x.ps b
section
variable {tA tI tP : TypeId}
structure AttAt (tA tI tP : TypeId) (p : PlanV) (w : World) (B : Nat) (x : AttX) : Prop where
  row : Row w x.b tA [.int .i64 x.c.number, .slice x.e.1 x.e.2.1 x.e.2.2, .map (some x.pm), .bool x.c.begun, .map (some x.am)]
  ends : Own w B tI (Enc.int .i64) x.e.1 x.e.2.1 x.e.2.2 x.c.ends
  deal : Deals tP w B x.ps x.c.pairs
  pmap : MapIs w x.pm .i64 slF ((storesP p).zip x.ps)
  amap : MapIs w x.am .i64 unitF (x.c.applied.map fun k => (k, ()))
  lo : B ≤ x.b ∧ B ≤ x.pm ∧ B ≤ x.am
  ne : x.pm ≠ x.am
theorem AttAt.foot {p : PlanV} {w : World} {B : Nat} {x : AttX} (h : AttAt tA tI tP p w B x) {b : Nat} (hb : AFoot x b) : B ≤ b ∧ b < w.heap.size := by
  rcases hb with rfl | rfl | rfl | hb | hb
  · exact ⟨h.lo.1, h.row.lt⟩
  · exact ⟨h.lo.2.1, h.pmap.lt⟩
  · exact ⟨h.lo.2.2, h.amap.lt⟩
  · exact h.ends.blk hb
  · exact h.deal.feet hb
theorem AttAt.upd {S : Nat → Prop} {p : PlanV} {w w' : World} {B : Nat} {x : AttX} (h : AttAt tA tI tP p w B x) (hu : Upd S w w') (hn : ∀ b, AFoot x b → ¬ S b) : AttAt tA tI tP p w' B x :=
  ⟨h.row.upd hu (hn _ (.inl rfl)), h.ends.upd hu fun b hb => hn b (.inr (.inr (.inr (.inl hb)))), h.deal.upd hu fun b hb => hn b (.inr (.inr (.inr (.inr hb)))), h.pmap.upd hu (hn _ (.inr (.inl rfl))), h.amap.upd hu (hn _ (.inr (.inr (.inl rfl)))), h.lo, h.ne⟩
theorem AttAt.grew {p : PlanV} {w w' : World} {B : Nat} {x : AttX} (h : AttAt tA tI tP p w B x) (hg : Grew w w') : AttAt tA tI tP p w' B x :=
  ⟨h.row.grew hg, h.ends.grew hg, h.deal.grew hg, h.pmap.grew hg, h.amap.grew hg, h.lo, h.ne⟩
theorem AttAt.base {p : PlanV} {w : World} {B B' : Nat} {x : AttX} (h : AttAt tA tI tP p w B x) (hb : B' ≤ B) : AttAt tA tI tP p w B' x :=
  ⟨h.row, h.ends.base hb, h.deal.base hb, h.pmap, h.amap, ⟨by have := h.lo; omega, by have := h.lo; omega, by have := h.lo; omega⟩, h.ne⟩
end
structure WorkX where
  p : Nat
  o : Sl3
  h : Nat
  l : List (Int × AttX)
def WFoot (X : WorkX) (b : Nat) : Prop := b = X.p ∨ b = X.h ∨ Blk X.o.1 b ∨ ∃ q ∈ X.l, AFoot q.2 b
structure WorkT where
  W : TypeId
  O : TypeId
  A : TypeId
  I : TypeId
  P : TypeId
structure WorkT.Ok (t : WorkT) : Prop where
  WO : t.W ≠ t.O
  WA : t.W ≠ t.A
  WI : t.W ≠ t.I
  WP : t.W ≠ t.P
  OA : t.O ≠ t.A
  OI : t.O ≠ t.I
  OP : t.O ≠ t.P
  AI : t.A ≠ t.I
  AP : t.A ≠ t.P
  IP : t.I ≠ t.P
structure WorkAt (t : WorkT) (w : World) (B : Nat) (X : WorkX) (V : WorkV) : Prop where
  row : Row w X.p t.W [.int .i64 V.plan.parts, .int .i64 V.plan.stores, .int .i64 V.plan.workers, .slice X.o.1 X.o.2.1 X.o.2.2, .int .i64 V.plan.agg, .int .i64 V.plan.batch, .int .i64 V.plan.window, .int .i64 V.plan.giveUp, .int .i64 V.node, .map (some X.h)]
  ops : Own w B t.O Enc.op3 X.o.1 X.o.2.1 X.o.2.2 V.plan.ops
  map : MapIs w X.h .i64 attF X.l
  held : X.l.map (fun q => (q.1, q.2.c)) = V.held
  atts : ∀ q ∈ X.l, AttAt t.A t.I t.P V.plan w B q.2
  apart : ∀ q ∈ X.l, ∀ r ∈ X.l, q.1 ≠ r.1 → ∀ b, AFoot q.2 b → ¬ AFoot r.2 b
  hne : ∀ q ∈ X.l, ¬ AFoot q.2 X.h
  lo : B ≤ X.p ∧ B ≤ X.h
  ok : V.Ok
section
variable {t : WorkT} {α : Type}
theorem WorkAt.foot {w : World} {B : Nat} {X : WorkX} {V : WorkV} (h : WorkAt t w B X V) {b : Nat} (hb : WFoot X b) : B ≤ b ∧ b < w.heap.size := by
  rcases hb with rfl | rfl | hb | ⟨q, hq, hb⟩
  · exact ⟨h.lo.1, h.row.lt⟩
  · exact ⟨h.lo.2, h.map.lt⟩
  · exact h.ops.blk hb
  · exact (h.atts q hq).foot hb
theorem WorkAt.upd {S : Nat → Prop} {w w' : World} {B : Nat} {X : WorkX} {V : WorkV} (h : WorkAt t w B X V) (hu : Upd S w w') (hn : ∀ b, WFoot X b → ¬ S b) : WorkAt t w' B X V :=
  ⟨h.row.upd hu (hn _ (.inl rfl)), h.ops.upd hu fun b hb => hn b (.inr (.inr (.inl hb))), h.map.upd hu (hn _ (.inr (.inl rfl))), h.held, fun q hq => (h.atts q hq).upd hu fun b hb => hn b (.inr (.inr (.inr ⟨q, hq, hb⟩))), h.apart, h.hne, h.lo, h.ok⟩
theorem WorkAt.grew {w w' : World} {B : Nat} {X : WorkX} {V : WorkV} (h : WorkAt t w B X V) (hg : Grew w w') : WorkAt t w' B X V :=
  ⟨h.row.grew hg, h.ops.grew hg, h.map.grew hg, h.held, fun q hq => (h.atts q hq).grew hg, h.apart, h.hne, h.lo, h.ok⟩
theorem WorkAt.base {w : World} {B B' : Nat} {X : WorkX} {V : WorkV} (h : WorkAt t w B X V) (hb : B' ≤ B) : WorkAt t w B' X V :=
  ⟨h.row, h.ops.base hb, h.map, h.held, fun q hq => (h.atts q hq).base hb, h.apart, h.hne, ⟨by have := h.lo; omega, by have := h.lo; omega⟩, h.ok⟩
theorem WorkAt.get {w : World} {B : Nat} {X : WorkX} {V : WorkV} (h : WorkAt t w B X V) (k : Int) : getM V.held k = (getM X.l k).map (·.c) := by rw [← h.held]; exact getM_map _ _ _
/-- the worker goes on -/
structure WorkMoves (t : WorkT) (w : World) (B : Nat) (X : WorkX) (w' : World) (X' : WorkX) (V' : WorkV) : Prop where
  at_ : WorkAt t w' B X' V'
  p : X'.p = X.p
  upd : Upd (WFoot X) w w'
  foot : ∀ b, WFoot X' b → WFoot X b ∨ w.heap.size ≤ b
theorem WorkMoves.still {w w' : World} {B : Nat} {X : WorkX} {V : WorkV} (h : WorkAt t w B X V) (hg : Grew w w') : WorkMoves t w B X w' X V := ⟨h.grew hg, rfl, hg.upd, fun b hb => .inl hb⟩
theorem WorkMoves.more {w w' w'' : World} {B : Nat} {X X' : WorkX} {V' : WorkV} (h : WorkMoves t w B X w' X' V') (hg : Grew w' w'') : WorkMoves t w B X w'' X' V' := ⟨h.at_.grew hg, h.p, h.upd.then_grew hg, h.foot⟩
theorem WorkMoves.pre {w0 w w' : World} {B : Nat} {X X' : WorkX} {V' : WorkV} (h : WorkMoves t w B X w' X' V') (hg : Grew w0 w) : WorkMoves t w0 B X w' X' V' := ⟨h.at_, h.p, hg.then_upd h.upd, fun b hb => (h.foot b hb).imp id fun h => Nat.le_trans hg.size h⟩

theorem mapIs_same {w : World} {b : Nat} {q : IntKind} {F : α → Value} {m m' : List (Int × α)} (h : MapIs w b q F m) (e : m'.map (fun p => (p.1, F p.2)) = m.map (fun p => (p.1, F p.2))) : MapIs w b q F m' := by
  obtain ⟨es, ck, h1, h2, h3, h4⟩ := h
  refine ⟨es, ck, h1, ?_, h3, fun p hp => ?_⟩
  · have := congrArg (List.map fun p : Int × Value => (Value.int q p.1, p.2)) e
    rw [List.map_map, List.map_map] at this
    rw [h2]; exact this.symm
  · have hm : (p.1, F p.2) ∈ m.map (fun p => (p.1, F p.2)) := by rw [← e]; exact List.mem_map_of_mem (f := fun p : Int × α => (p.1, F p.2)) hp
    obtain ⟨p', hp', e'⟩ := List.mem_map.1 hm
    have e1 : p'.1 = p.1 := (Prod.mk.inj e').1
    rw [← e1]; exact h4 p' hp'
theorem WorkAt.next {S : Nat → Prop} {w w' : World} {B : Nat} {X : WorkX} {V V' : WorkV} {l' : List (Int × AttX)} (h : WorkAt t w B X V) (hu : Upd S w w') (hS : ∀ b, S b → WFoot X b ∧ b ≠ X.p ∧ ¬ Blk X.o.1 b) (hp : V'.plan = V.plan) (hn : V'.node = V.node)
    (hmap : MapIs w' X.h .i64 attF l') (hheld : l'.map (fun q => (q.1, q.2.c)) = V'.held) (hatts : ∀ q ∈ l', AttAt t.A t.I t.P V.plan w' B q.2) (hap : ∀ q ∈ l', ∀ r ∈ l', q.1 ≠ r.1 → ∀ b, AFoot q.2 b → ¬ AFoot r.2 b) (hne : ∀ q ∈ l', ¬ AFoot q.2 X.h) (hok : V'.Ok)
    (hf : ∀ q ∈ l', ∀ b, AFoot q.2 b → WFoot X b ∨ w.heap.size ≤ b) : WorkMoves t w B X w' { X with l := l' } V' := by
  refine ⟨⟨by rw [hp, hn]; exact h.row.upd hu fun e => (hS _ e).2.1 rfl, by rw [hp]; exact h.ops.upd hu fun b hb e => (hS b e).2.2 hb, hmap, hheld, by rw [hp]; exact hatts, hap, hne, h.lo, hok⟩, rfl, hu.mono fun b _ e => (hS b e).1, fun b hb => ?_⟩
  rcases hb with rfl | rfl | hb | ⟨q, hq, hb⟩
  · exact .inl (.inl rfl)
  · exact .inl (.inr (.inl rfl))
  · exact .inl (.inr (.inr (.inl hb)))
  · exact hf q hq b hb
theorem WorkAt.mapS {w : World} {B : Nat} {X : WorkX} {V : WorkV} (h : WorkAt t w B X V) : ∀ b, b = X.h → WFoot X b ∧ b ≠ X.p ∧ ¬ Blk X.o.1 b := by
  rintro b rfl
  exact ⟨.inr (.inl rfl), fun e => h.map.row_ne h.row e.symm, h.map.own_ne h.ops⟩
theorem WorkV.Ok.setA {V : WorkV} (h : V.Ok) {k : Int} {a : AttV} (hk : 1 ≤ k ∧ k ≤ 1099511627776) (ha : a.Ok V.plan) : (V.setA k a).Ok := by
  refine ⟨h.good, h.ops, h.node, fun q hq => ?_, fun q hq => ?_⟩
  · rcases setM_sub q hq with rfl | ⟨hq, -⟩
    · exact ha
    · exact h.atts q hq
  · rcases setM_sub q hq with rfl | ⟨hq, -⟩
    · exact hk
    · exact h.keys q hq
/-- an attempt of new memory is put into the map -/
theorem WorkAt.put {w0 w w' : World} {B : Nat} {X : WorkX} {V : WorkV} (h : WorkAt t w0 B X V) (hg : Grew w0 w) {k : Int} {y : AttX} (hk : 1 ≤ k ∧ k ≤ 1099511627776) (hy : AttAt t.A t.I t.P V.plan w B y) (hok : y.c.Ok V.plan)
    (hf : ∀ b, AFoot y b → w0.heap.size ≤ b) (hmap : MapIs w' X.h .i64 attF (setM X.l k y)) (hu : Upd (fun b => b = X.h) w w') :
    WorkMoves t w0 B X w' { X with l := setM X.l k y } (V.setA k y.c) := by
  have hyh : ¬ AFoot y X.h := fun hb => by have := hf _ hb; have := h.map.lt; omega
  have hyq : ∀ q ∈ X.l, ∀ b, AFoot y b → ¬ AFoot q.2 b := fun q hq b h1 h2 => by have := hf _ h1; have := ((h.atts q hq).foot h2).2; omega
  have hg' := hg.then_upd hu
  refine h.next hg' h.mapS rfl rfl hmap (by rw [setM_map, h.held]; rfl) (fun q hq => ?_) (fun q hq r hr hne b h1 h2 => ?_) (fun q hq => ?_) (h.ok.setA hk hok) (fun q hq b hb => ?_)
  · rcases setM_sub q hq with rfl | ⟨hq, -⟩
    · exact hy.upd hu fun b hb e => hyh (e ▸ hb)
    · exact (h.atts q hq).upd hg' fun b hb e => h.hne q hq (e ▸ hb)
  · rcases setM_sub q hq with rfl | ⟨hq, n1⟩
    · rcases setM_sub r hr with rfl | ⟨hr, n2⟩
      · exact hne rfl
      · exact hyq r hr b h1 h2
    · rcases setM_sub r hr with rfl | ⟨hr, n2⟩
      · exact hyq q hq b h2 h1
      · exact h.apart q hq r hr hne b h1 h2
  · rcases setM_sub q hq with rfl | ⟨hq, -⟩
    · exact hyh
    · exact h.hne q hq
  · rcases setM_sub q hq with rfl | ⟨hq, -⟩
    · exact .inr (hf b hb)
    · exact .inl (.inr (.inr (.inr ⟨q, hq, hb⟩)))
/-- an attempt goes out of the map -/
theorem WorkAt.del {w0 w w' : World} {B : Nat} {X : WorkX} {V : WorkV} (h : WorkAt t w0 B X V) (hg : Grew w0 w) {k : Int} (hmap : MapIs w' X.h .i64 attF (delM X.l k)) (hu : Upd (fun b => b = X.h) w w') :
    WorkMoves t w0 B X w' { X with l := delM X.l k } { V with held := delM V.held k } := by
  have hg' := hg.then_upd hu
  refine h.next hg' h.mapS rfl rfl hmap (by rw [delM_map, h.held]) (fun q hq => ?_) (fun q hq r hr hne b h1 h2 => ?_) (fun q hq => ?_) ⟨h.ok.good, h.ok.ops, h.ok.node, fun q hq => ?_, fun q hq => ?_⟩ (fun q hq b hb => ?_)
  · exact (h.atts q (delM_mem q hq).1).upd hg' fun b hb e => h.hne q (delM_mem q hq).1 (e ▸ hb)
  · exact h.apart q (delM_mem q hq).1 r (delM_mem r hr).1 hne b h1 h2
  · exact h.hne q (delM_mem q hq).1
  · exact h.ok.atts q (delM_mem q hq).1
  · exact h.ok.keys q (delM_mem q hq).1
  · exact .inl (.inr (.inr (.inr ⟨q, (delM_mem q hq).1, hb⟩)))
/-- an attempt is another, in its place -/
theorem WorkAt.chg {S : Nat → Prop} {w w' : World} {B : Nat} {X : WorkX} {V : WorkV} (h : WorkAt t w B X V) {k : Int} {x y : AttX} (hx : getM X.l k = some x) (hb : y.b = x.b) (hu : Upd S w w') (hS : ∀ b, S b → AFoot x b ∧ b ≠ X.p ∧ ¬ Blk X.o.1 b)
    (hy : AttAt t.A t.I t.P V.plan w' B y) (hok : y.c.Ok V.plan) (hf : ∀ b, AFoot y b → AFoot x b ∨ w.heap.size ≤ b) : WorkMoves t w B X w' { X with l := setM X.l k y } (V.setA k y.c) := by
  have hm := getM_inM hx
  have hnd := h.map.nodup
  have hxh := h.hne _ hm
  have hap : ∀ q ∈ X.l, q.1 ≠ k → ∀ b, AFoot q.2 b → ¬ AFoot x b := fun q hq hne => h.apart q hq _ hm hne
  have hyq : ∀ q ∈ X.l, q.1 ≠ k → ∀ b, AFoot y b → ¬ AFoot q.2 b := fun q hq hne b h1 h2 => by
    rcases hf b h1 with h3 | h3
    · exact hap q hq hne b h2 h3
    · have := ((h.atts q hq).foot h2).2; omega
  refine h.next hu (fun b e => ⟨.inr (.inr (.inr ⟨_, hm, (hS b e).1⟩)), (hS b e).2⟩) rfl rfl ?_ (by rw [setM_map, h.held]; rfl) (fun q hq => ?_) (fun q hq r hr hne b h1 h2 => ?_) (fun q hq hc => ?_) (h.ok.setA (h.ok.keys (k, x.c) (by rw [← h.held]; exact List.mem_map_of_mem (f := fun q : Int × AttX => (q.1, q.2.c)) hm)) hok) (fun q hq b hb => ?_)
  · refine mapIs_same (h.map.upd hu fun e => hxh (hS _ e).1) ?_
    rw [setM_map]
    have ha : X.l.any (fun p => p.1 == k) = true := by rw [List.any_eq_true]; exact ⟨_, hm, by simp⟩
    have ha' : (X.l.map fun q => (q.1, attF q.2)).any (fun p => p.1 == k) = true := by rw [List.any_map]; exact ha
    unfold setM
    rw [if_pos ha']
    conv => rhs; rw [← List.map_id (X.l.map fun q => (q.1, attF q.2))]
    apply List.map_congr_left
    rintro ⟨i, v⟩ hv
    by_cases hi : i = k
    · obtain ⟨q, hq, e⟩ := List.mem_map.1 hv
      have e1 := (Prod.mk.inj e).1
      have e2 := (Prod.mk.inj e).2
      have : q.2 = x := uniqM hnd (k := k) (by rw [← hi, ← e1]; exact hq) hm
      subst hi
      simp only [beq_self_eq_true, if_true, id_eq, Prod.mk.injEq, true_and]
      rw [← e2, this]; unfold attF; rw [hb]
    · simp [hi]
  · rcases setM_sub q hq with rfl | ⟨hq, n1⟩
    · exact hy
    · exact (h.atts q hq).upd hu fun b hb e => hap q hq n1 b hb (hS b e).1
  · rcases setM_sub q hq with rfl | ⟨hq, n1⟩
    · rcases setM_sub r hr with rfl | ⟨hr, n2⟩
      · exact hne rfl
      · exact hyq r hr n2 b h1 h2
    · rcases setM_sub r hr with rfl | ⟨hr, n2⟩
      · exact hyq q hq n1 b h2 h1
      · exact h.apart q hq r hr hne b h1 h2
  · rcases setM_sub q hq with rfl | ⟨hq, n1⟩
    · rcases hf _ hc with h1 | h1
      · exact hxh h1
      · have := h.map.lt; omega
    · exact h.hne q hq hc
  · rcases setM_sub q hq with rfl | ⟨hq, n1⟩
    · exact (hf b hb).imp (fun h1 => .inr (.inr (.inr ⟨_, hm, h1⟩))) id
    · exact .inl (.inr (.inr (.inr ⟨q, hq, hb⟩)))
theorem WorkAt.att {w : World} {B : Nat} {X : WorkX} {V : WorkV} (h : WorkAt t w B X V) {k : Int} {x : AttX} (hx : getM X.l k = some x) : AttAt t.A t.I t.P V.plan w B x ∧ x.c.Ok V.plan ∧ (1 ≤ k ∧ k ≤ 1099511627776) := by
  have hm := getM_inM hx
  have hm' : (k, x.c) ∈ V.held := by rw [← h.held]; exact List.mem_map_of_mem (f := fun q : Int × AttX => (q.1, q.2.c)) hm
  exact ⟨h.atts _ hm, h.ok.atts _ hm', h.ok.keys _ hm'⟩
end
structure HeldX where
  c : HeldV
  e : Sl3
def Enc.held : Enc HeldX := ⟨5, fun x => [.int .i64 x.c.batch, .int .i64 x.c.att, .slice x.e.1 x.e.2.1 x.e.2.2, .bool x.c.begun, .int .i64 x.c.applied], fun _ => rfl, by decide, fun x v h => by simp at h; rcases h with rfl | rfl | rfl | rfl | rfl <;> rfl⟩
structure HeldsOwn (tH tI : TypeId) (w : World) (B : Nat) (a : Option Addr) (n c : Nat) (hs : List HeldX) : Prop where
  own : Own w B tH Enc.held a n c hs
  each : ∀ x ∈ hs, Own w B tI (Enc.int .i64) x.e.1 x.e.2.1 x.e.2.2 x.c.ends
theorem HeldsOwn.grew {tH tI : TypeId} {w w' : World} {B : Nat} {a : Option Addr} {n c : Nat} {hs : List HeldX} (h : HeldsOwn tH tI w B a n c hs) (hg : Grew w w') : HeldsOwn tH tI w' B a n c hs := ⟨h.own.grew hg, fun x hx => (h.each x hx).grew hg⟩
theorem HeldsOwn.base {tH tI : TypeId} {w : World} {B B' : Nat} {a : Option Addr} {n c : Nat} {hs : List HeldX} (h : HeldsOwn tH tI w B a n c hs) (hb : B' ≤ B) : HeldsOwn tH tI w B' a n c hs := ⟨h.own.base hb, fun x hx => (h.each x hx).base hb⟩
theorem HeldsOwn.upd {S : Nat → Prop} {tH tI : TypeId} {w w' : World} {B : Nat} {a : Option Addr} {n c : Nat} {hs : List HeldX} (h : HeldsOwn tH tI w B a n c hs) (hu : Upd S w w') (hn : ∀ b, B ≤ b → b < w.heap.size → ¬ S b) : HeldsOwn tH tI w' B a n c hs := ⟨h.own.upd hu fun b hb => hn b (h.own.blk hb).1 (h.own.blk hb).2, fun x hx => (h.each x hx).upd hu fun b hb => hn b ((h.each x hx).blk hb).1 ((h.each x hx).blk hb).2⟩
theorem WorkV.tell_get {V : WorkV} {k : Nat} {key : Int} (h : (sortL (V.held.map (·.1)))[k]? = some key) : V.tell[k]? = some (heldOf key ((getM V.held key).getD att0)) := by
  unfold WorkV.tell; rw [List.getElem?_map, h]; rfl
theorem WorkV.tell_len (V : WorkV) : V.tell.length = V.held.length := by
  unfold WorkV.tell; rw [List.length_map, (sortL_perm _).length_eq, List.length_map]
end Go.Sx
/- A worker with one attempt: what it answers. Conditions: none. -/
namespace Go.Sx
set_option linter.unusedVariables false
def msgA (k f cd att : Int) (l : List Int) : MsgV := ⟨k, f, 1, 3, att, cd, l, [], []⟩
def msgK (k f cd : Int) (l : List Int) : MsgV := ⟨k, f, 1, 3, 7, cd, l, [], []⟩
def W0 (p : PlanV) : WorkV := ⟨p, 1, []⟩
def W1 (p : PlanV) (a : AttV) : WorkV := ⟨p, 1, [(3, a)]⟩
theorem endsB_iff {l : List Int} : endsB l = true ↔ ∀ e ∈ l, 0 ≤ e ∧ e ≤ 256 := by unfold endsB; rw [List.all_eq_true]; simp
theorem sound_ends {k att : Int} (hk : k = 1 ∨ k = 3) (ha : 1 ≤ att ∧ att ≤ 1000) {l : List Int} (h1 : 1 ≤ l.length ∧ l.length ≤ 4) (he : ∀ e ∈ l, 0 ≤ e ∧ e ≤ 256) : soundMsg (msgA k 0 0 att l) = true := by
  have hf : fieldM k = 1 := by rcases hk with rfl | rfl <;> rfl
  rw [soundMsg_iff]
  unfold msgA
  simp only [hf, List.length_nil]
  exact ⟨by decide, by omega, by omega, by omega, by omega, fun h => (h rfl).elim, fun _ => trivial, fun _ => trivial, fun _ => trivial, fun _ => h1, endsB_iff.2 he, by omega, rfl, by omega, rfl, by omega⟩
theorem sound_code {k f cd : Int} (hk : k = 5 ∨ k = 7) (hf : 0 ≤ f ∧ f ≤ 8) (hc : 0 ≤ cd ∧ cd ≤ 1000) : soundMsg (msgA k f cd 7 []) = true := by
  have hm : fieldM k = 4 := by rcases hk with rfl | rfl <;> rfl
  rw [soundMsg_iff]
  unfold msgA
  simp only [hm, List.length_nil]
  exact ⟨by decide, hf, by omega, by omega, by omega, fun _ => trivial, fun _ => trivial, fun _ => trivial, fun h => (h rfl).elim, fun h => (by revert h; decide), rfl, by omega, rfl, by omega, rfl, hc⟩
theorem coordK {p : PlanV} (h : GoodP p) : kindP p 0 = 1 := by
  have := h.workers; have := h.stores
  rw [kindP_of h (by omega) (by omega)]; rfl
theorem storeK {p : PlanV} (h : GoodP p) {k : Nat} (hk : k < p.stores.toNat) : kindP p (1 + p.workers + (k : Int)) = 3 ∧ 0 ≤ 1 + p.workers + (k : Int) ∧ 1 + p.workers + (k : Int) ≤ 8 := by
  have := h.workers; have := h.stores
  rw [kindP_of h (by omega) (by omega), if_neg (by omega), if_neg (by omega)]; exact ⟨rfl, by omega, by omega⟩
section
variable {p : PlanV} {s : SrcV} {f : List Int}
theorem form_okV (hG : GoodP p) (hE : endsE s f = 0) : formV s f p.batch = ⟨toV s p.batch f, btwV s f (toV s p.batch f) f.length, 0⟩ := by
  have := hG.batch
  unfold formV; rw [if_neg (by omega), if_pos hE]
theorem ends_256 (hs : s.Fits) (hE : endsE s f = 0) : (1 ≤ f.length ∧ f.length ≤ 4) ∧ ∀ e ∈ f, 0 ≤ e ∧ e ≤ 256 := by
  obtain ⟨h1, h2⟩ := endsE_ok.1 hE
  have := hs.parts
  refine ⟨by omega, fun e he => ?_⟩
  obtain ⟨i, hi⟩ := List.getElem?_of_mem he
  have := h2 i e hi; have := len_256 hs (i : Int); omega
theorem take_coord (hG : GoodP p) {V : WorkV} (hp : V.plan = p) (hn : V.node = 1) {k att : Int} (hk : k = 1 ∨ k = 3) (ha : 1 ≤ att ∧ att ≤ 1000) {l : List Int} (h1 : 1 ≤ l.length ∧ l.length ≤ 4) (he : ∀ e ∈ l, 0 ≤ e ∧ e ≤ 256) :
    V.take s (msgA k 0 0 att l) = .of (if k = 1 then V.assign s (msgA k 0 0 att l) else V.begin (msgA k 0 0 att l)) := by
  have hs := sound_ends hk ha h1 he
  have hc : kindP V.plan (msgA k 0 0 att l).frm = 1 := by rw [hp]; exact coordK hG
  unfold WorkV.take
  rw [if_neg (by rw [hs]; decide), if_neg (by rw [hn]; simp [msgA])]
  rcases hk with rfl | rfl
  · rw [if_pos ⟨rfl, hc⟩]; rfl
  · rw [if_neg (fun h => by have := h.1; simp [msgA] at this), if_pos ⟨rfl, hc⟩]; rfl
theorem take_store (hG : GoodP p) {V : WorkV} (hp : V.plan = p) (hn : V.node = 1) {k cd : Int} {i : Nat} (hk : k = 5 ∨ k = 7) (hi : i < p.stores.toNat) (hc : 0 ≤ cd ∧ cd ≤ 1000) :
    V.take s (msgA k (1 + p.workers + (i : Int)) cd 7 []) = .of (V.answer (msgA k (1 + p.workers + (i : Int)) cd 7 [])) := by
  obtain ⟨k3, k0, k8⟩ := storeK hG hi
  have hs := sound_code hk ⟨k0, k8⟩ hc
  have h3 : kindP V.plan (msgA k (1 + p.workers + (i : Int)) cd 7 []).frm = 3 := by rw [hp]; exact k3
  unfold WorkV.take
  rw [if_neg (by rw [hs]; decide), if_neg (by rw [hn]; simp [msgA]), if_neg (fun h => by rw [h3] at h; exact absurd h.2 (by decide)), if_neg (fun h => by rw [h3] at h; exact absurd h.2 (by decide)), if_pos ⟨hk, h3⟩]
theorem find_W1 {a : AttV} {m : MsgV} (hb : m.batch = 3) : (W1 p a).find m = if a.number = m.att then some a else none := by
  unfold WorkV.find W1
  rw [hb]; rfl
theorem find7 {a : AttV} {m : MsgV} (hb : m.batch = 3) (ha : m.att = 7) (hn : a.number = 7) : (W1 p a).find m = some a := by rw [find_W1 hb, ha, if_pos hn]
theorem take_new (hG : GoodP p) (hs : s.Fits) (hE : endsE s f = 0) : (W0 p).take s (msgK 1 0 0 f) = ⟨W1 p ((W0 p).newA s (msgK 1 0 0 f)), [⟨2, 1, 0, 3, 7, 0, toV s p.batch f, [], []⟩], 0⟩ := by
  obtain ⟨h1, h2⟩ := ends_256 hs hE
  have := take_coord (s := s) hG (V := W0 p) rfl rfl (k := 1) (att := 7) (.inl rfl) (by omega) h1 h2
  rw [if_pos rfl] at this
  refine this.trans ?_
  unfold WorkV.assign
  have hst : (W0 p).stale (msgA 1 0 0 7 f) = false := rfl
  have hfm : formV s (msgA 1 0 0 7 f).ends (W0 p).plan.batch = ⟨toV s p.batch f, btwV s f (toV s p.batch f) f.length, 0⟩ := form_okV hG hE
  rw [if_neg (by rw [hst]; decide), hfm, if_neg (fun h => h rfl)]
  rfl
theorem newA_is (hG : GoodP p) (hE : endsE s f = 0) {V : WorkV} (hp : V.plan = p) (att : Int) (k : Int) : V.newA s (msgA k 0 0 att f) = ⟨att, toV s p.batch f, dealP p.stores (tableT (bAll p.ops p.agg (btwV s f (toV s p.batch f) f.length)).1), false, []⟩ := by
  unfold WorkV.newA
  rw [hp, show (msgA k 0 0 att f).ends = f from rfl, form_okV hG hE]; rfl
theorem take_go (hG : GoodP p) {a : AttV} (hn : a.number = 7) (hb : a.begun = false) (h1 : 1 ≤ a.ends.length ∧ a.ends.length ≤ 4) (he : ∀ e ∈ a.ends, 0 ≤ e ∧ e ≤ 256) :
    (W1 p a).take s (msgK 3 0 0 a.ends) = ⟨W1 p { a with begun := true }, (List.range p.stores.toNat).map ((W1 p a).begins (msgK 3 0 0 a.ends) a), 0⟩ := by
  have := take_coord (s := s) hG (V := W1 p a) rfl rfl (k := 3) (att := 7) (.inr rfl) (by omega) h1 he
  rw [if_neg (by decide)] at this
  refine this.trans ?_
  unfold WorkV.begin
  rw [find7 rfl rfl hn]
  simp only
  rw [if_neg (by rw [hb]; simp [msgA])]
  rfl
theorem take_began (hG : GoodP p) {a : AttV} (hn : a.number = 7) (hb : a.begun = true) {i : Nat} (hi : i < p.stores.toNat) :
    (W1 p a).take s (msgK 5 (1 + p.workers + (i : Int)) 0 []) = ⟨W1 p a, [⟨6, 1, 1 + p.workers + (i : Int), 3, 7, 0, [], [], a.pairs.getD i []⟩], 0⟩ := by
  refine (take_store (s := s) hG (V := W1 p a) rfl rfl (.inl rfl) hi (cd := 0) (by omega)).trans ?_
  unfold WorkV.answer
  rw [find7 rfl rfl hn]
  simp only
  rw [if_neg (by rw [hb]; decide), if_neg (by simp [msgA]), if_pos (show (msgA 5 (1 + p.workers + (i : Int)) 0 7 []).kind = 5 from rfl)]
  have : ((msgA 5 (1 + p.workers + (i : Int)) 0 7 []).frm - 1 - (W1 p a).plan.workers).toNat = i := by show (1 + p.workers + (i : Int) - 1 - p.workers).toNat = i; omega
  rw [this]; rfl
theorem tell_W1 (a : AttV) : (W1 p a).tell = [heldOf 3 a] := by
  have e1 : sortL [3] = [3] := strict_ext (sortL_strict (by decide)) (by decide) fun x => by rw [sortL_mem]
  show (sortL [3]).map _ = _
  rw [e1]; rfl
end
end Go.Sx
/- A table dealt out and put together again; logs that only grow. Conditions: none. -/
namespace Go.Sx
set_option linter.unusedVariables false
def upTo (S : Int) (T : List PairV) (k : Nat) : List PairV := T.filter fun x => decide (x.key % S < (k : Int))
theorem getP_some_mem {l : List PairV} (h : Rise l) {x : PairV} : x ∈ l ↔ getP l x.key = some x.val := by
  have := getP_mem h (k := x.key) (v := x.val)
  rwa [pairOf_val] at this
theorem rise_filter {l : List PairV} (h : Rise l) (q : PairV → Bool) : Rise (l.filter q) := (List.Pairwise.sublist ((List.filter_sublist).map _) h)
theorem part_merge {kind S : Int} {T : List PairV} (h : Rise T) (hf : ∀ x ∈ T, fitV kind x.val = x.val) (k : Nat) : mergeL kind (upTo S T k) (dealI S T k) = upTo S T (k + 1) := by
  have hl : Rise (upTo S T k) := rise_filter h _
  have hr : Rise (dealI S T k) := rise_filter h _
  obtain ⟨m1, -, -, m4⟩ := mergeL_spec kind _ _ _ (Nat.le_refl _) hl hr
  have inL : ∀ x, x ∈ upTo S T k ↔ x ∈ T ∧ x.key % S < (k : Int) := fun x => by unfold upTo; rw [List.mem_filter]; simp
  have inR : ∀ x, x ∈ dealI S T k ↔ x ∈ T ∧ x.key % S = (k : Int) := fun x => by unfold dealI; rw [List.mem_filter]; simp
  have gl : ∀ {l : List PairV} (hl : Rise l) {key : Int} {v : ValV}, getP l key = some v → (⟨key, v.has, v.bits⟩ : PairV) ∈ l := by
    intro l hl key v hv
    exact (getP_mem hl (k := key) (v := v)).2 hv
  refine pairs_ext m1 (rise_filter h _) fun x => ?_
  rw [getP_some_mem m1, m4]
  have hU : x ∈ upTo S T (k + 1) ↔ x ∈ T ∧ (x.key % S < (k : Int) ∨ x.key % S = (k : Int)) := by
    unfold upTo; rw [List.mem_filter]; simp only [decide_eq_true_eq]
    constructor
    · rintro ⟨a, b⟩; exact ⟨a, by omega⟩
    · rintro ⟨a, b⟩; exact ⟨a, by omega⟩
  show _ ↔ x ∈ upTo S T (k + 1)
  rw [hU]
  cases hL : getP (upTo S T k) x.key with
  | some v =>
    have hv := (inL _).1 (gl hl hL)
    cases hR : getP (dealI S T k) x.key with
    | some u => have hu := (inR _).1 (gl hr hR); have := hv.2; have := hu.2; simp only at *; omega
    | none =>
      have hfv := hf _ hv.1
      simp only [bothV, Option.some.injEq]
      rw [show fitV kind v = v from hfv]
      constructor
      · rintro rfl
        exact ⟨by have := hv.1; rwa [show (⟨x.key, x.val.has, x.val.bits⟩ : PairV) = x from rfl] at this, .inl hv.2⟩
      · rintro ⟨hx, hc⟩
        have hxl : x ∈ upTo S T k := (inL x).2 ⟨hx, hv.2⟩
        have := (getP_some_mem hl).1 hxl
        rw [hL] at this; exact Option.some.inj this
  | none =>
    have hnl : ¬ x ∈ upTo S T k := fun hx => by have := (getP_some_mem hl).1 hx; rw [hL] at this; cases this
    cases hR : getP (dealI S T k) x.key with
    | some u =>
      have hu := (inR _).1 (gl hr hR)
      have hfu := hf _ hu.1
      simp only [bothV, Option.some.injEq]
      rw [show fitV kind u = u from hfu]
      constructor
      · rintro rfl
        exact ⟨by have := hu.1; rwa [show (⟨x.key, x.val.has, x.val.bits⟩ : PairV) = x from rfl] at this, .inr hu.2⟩
      · rintro ⟨hx, hc⟩
        have hxr : x ∈ dealI S T k := (inR x).2 ⟨hx, hu.2⟩
        have := (getP_some_mem hr).1 hxr
        rw [hR] at this; exact Option.some.inj this
    | none =>
      simp only [bothV, reduceCtorEq, false_iff]
      rintro ⟨hx, hc | hc⟩
      · exact hnl ((inL x).2 ⟨hx, hc⟩)
      · have := (getP_some_mem hr).1 ((inR x).2 ⟨hx, hc⟩); rw [hR] at this; cases this
theorem upTo_zero {S : Int} {T : List PairV} (hS : 0 < S) : upTo S T 0 = [] := by
  unfold upTo
  rw [List.filter_eq_nil_iff]
  intro x _
  have := Int.emod_nonneg x.key (show S ≠ 0 by omega)
  simp; omega
theorem upTo_all {S : Int} {T : List PairV} (hS : 0 < S) : upTo S T S.toNat = T := by
  unfold upTo
  rw [List.filter_eq_self]
  intro x _
  have := Int.emod_lt_of_pos x.key hS
  simp; omega
theorem batch_fitV {list : List OpV} {kind : Int} {rs : List RecV} (hk : knownB kind = true) (hl : ∀ o ∈ list, o.Fits) (hf : ∀ x ∈ rs, x.Fits) : Rise (tableT (bAll list kind rs).1) ∧ ∀ x ∈ tableT (bAll list kind rs).1, fitV kind x.val = x.val ∧ x.has = true := by
  obtain ⟨f1, g1⟩ := batch_get (rs := rs) hk hl hf
  have hS := table_same f1.1
  refine ⟨hS.rise, fun x hx => ?_⟩
  have hm : getM (bAll list kind rs).1 x.key = some x.val := (hS.mem _ _).1 (by rw [pairOf_val]; exact hx)
  refine ⟨(f1.2 _ _ hm).fit, ?_⟩
  have hs := table_sound hk hl hf
  unfold soundB at hs
  rw [decide_eq_true_eq] at hs
  exact hs.1 x hx
def LogsOn (v v' : SrcV) : Prop := ∀ i : Int, ∃ z, v'.log i = v.log i ++ z
theorem LogsOn.refl (v : SrcV) : LogsOn v v := fun i => ⟨[], by simp⟩
theorem LogsOn.trans {a b c : SrcV} (h : LogsOn a b) (k : LogsOn b c) : LogsOn a c := fun i => by
  obtain ⟨z, hz⟩ := h i
  obtain ⟨y, hy⟩ := k i
  exact ⟨z ++ y, by rw [hy, hz, List.append_assoc]⟩
theorem LogsOn.len {v v' : SrcV} (h : LogsOn v v') (i : Int) : v.len i ≤ v'.len i := by
  obtain ⟨z, hz⟩ := h i
  rw [← log_lenP, ← log_lenP, hz, List.length_append]; omega
end Go.Sx
