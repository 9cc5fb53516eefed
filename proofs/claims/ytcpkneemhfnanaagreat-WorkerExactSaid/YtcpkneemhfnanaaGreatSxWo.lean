/- Nets of messages in memory. Conditions: none. -/
import Derived.Test.YtcpkneemhfnanaaGreatSxX
import Derived.Test.YtcpkneemhfnanaaGreatSxZ
import Derived.Test.YtcpkneemhfnanaaGreatSxPl
namespace Go.Sx
set_option linter.unusedSimpArgs false
set_option linter.unusedVariables false
structure MOwn (ti tu tp : TypeId) (w : World) (B : Nat) (x : Msg) : Prop where
 e : Own w B ti (Enc.int .i64) x.e.1 x.e.2.1 x.e.2.2 x.c.ends
 k : Own w B tu (Enc.int .u64) x.k.1 x.k.2.1 x.k.2.2 x.c.keys
 p : Own w B tp Enc.pair x.p.1 x.p.2.1 x.p.2.2 x.c.pairs
section
variable {ti tu tp : TypeId}
theorem MOwn.at {w : World} {B : Nat} {x : Msg} (h : MOwn ti tu tp w B x) : x.At w := ⟨h.e.reads, h.k.reads, h.p.reads⟩
theorem MOwn.grew {w w' : World} {B : Nat} {x : Msg} (h : MOwn ti tu tp w B x) (hg : Grew w w') : MOwn ti tu tp w' B x := ⟨h.e.grew hg, h.k.grew hg, h.p.grew hg⟩
theorem MOwn.base {w : World} {B B' : Nat} {x : Msg} (h : MOwn ti tu tp w B x) (hb : B' ≤ B) : MOwn ti tu tp w B' x := ⟨h.e.base hb, h.k.base hb, h.p.base hb⟩
theorem MOwn.upd {S : Nat → Prop} {w w' : World} {B : Nat} {x : Msg} (h : MOwn ti tu tp w B x) (hu : Upd S w w') (hn : ∀ b, x.Blk b → ¬ S b) : MOwn ti tu tp w' B x :=
 ⟨h.e.upd hu fun b hb => hn b (.inl hb), h.k.upd hu fun b hb => hn b (.inr (.inl hb)), h.p.upd hu fun b hb => hn b (.inr (.inr hb))⟩
theorem MOwn.blk {w : World} {B : Nat} {x : Msg} (h : MOwn ti tu tp w B x) {b : Nat} (hb : x.Blk b) : B ≤ b ∧ b < w.heap.size := by
 rcases hb with hb | hb | hb
 ·exact h.e.blk hb
 ·exact h.k.blk hb
 ·exact h.p.blk hb
theorem Own.obj {α : Type} {w : World} {B : Nat} {e : TypeId} {E : Enc α} {a : Option Addr} {n c : Nat} {l : List α} (h : Own w B e E a n c l) {b : Nat} (hb : Blk a b) : ∃ cur, w.heap[b]? = some (.cells cur e (0, 0)) := by
 rcases h.out with ⟨rfl, -⟩ | ⟨g, cur, rfl, -, hg, -⟩
 ·exact absurd hb Blk.none
 ·have := Blk.some.1 hb; simp only at this; subst this; exact ⟨cur, hg⟩
theorem MOwn.obj {w : World} {B : Nat} {x : Msg} (h : MOwn ti tu tp w B x) {b : Nat} (hb : x.Blk b) : ∃ cur t, (t = ti ∨ t = tu ∨ t = tp) ∧ w.heap[b]? = some (.cells cur t (0, 0)) := by
 rcases hb with hb | hb | hb
 ·obtain ⟨cur, hc⟩ := h.e.obj hb; exact ⟨cur, ti, .inl rfl, hc⟩
 ·obtain ⟨cur, hc⟩ := h.k.obj hb; exact ⟨cur, tu, .inr (.inl rfl), hc⟩
 ·obtain ⟨cur, hc⟩ := h.p.obj hb; exact ⟨cur, tp, .inr (.inr rfl), hc⟩
theorem Q0 {α : Type} {m : List (Int × α)} {k : Int} (h : getM m k = none) : ∀ p ∈ m, p.1 ≠ k := by
 unfold getM at h
 intro p hp e
 have := List.find?_eq_none.1 (Option.map_eq_none_iff.1 h) p hp
 simp [e] at this
theorem Abo {α : Type} (m : List (Int × α)) (k : Int) : (delM m k).Sublist m := List.filter_sublist
theorem Abp {α : Type} {m : List (Int × α)} {k : Int} {x : α} (h : ∀ p ∈ m, p.1 ≠ k) : setM m k x = m ++ [(k, x)] := by
 rw [setM, if_neg]
 simp only [List.any_eq_true, not_exists, not_and]
 intro p hp; simpa using h p hp
end
theorem H6 {k k' : Int} {v v' : ValV} (h : Bt k v = Bt k' v') : k = k' ∧ v = v' := by
 have h1 : k = k' := congrArg Am.key h
 have h2 : v.has = v'.has := congrArg Am.has h
 have h3 : v.bits = v'.bits := congrArg Am.bits h
 exact ⟨h1, by cases v; cases v'; simp_all⟩
theorem Ts {kind : Int} {m : Tab} {t : List Am} {k : Int} {v : ValV} {j : Nat} (h : Same m t) (hj : j ≤ t.length) (h1 : ∀ x ∈ t.take j, x.key < k) (h2 : ∀ x, t[j]? = some x → k < x.key) :
  Same (putT kind m k v) (t.take j ++ Bt k (fitV kind v) :: t.drop j) := by
 obtain ⟨p1, p2, p3⟩ := Gg (l := t.map (·.key)) (k := k) (j := j) h.rise (by simpa using hj) (fun x hx => by
  rw [← List.map_take] at hx
  obtain ⟨y, hy, rfl⟩ := List.mem_map.1 hx
  exact h1 y hy) (fun x hx => by
  rw [List.getElem?_map] at hx
  obtain ⟨y, hy, rfl⟩ := Option.map_eq_some_iff.1 hx
  exact h2 y hy)
 have hno : getM m k = none := by
  cases hg : getM m k with
  | none => rfl
  | some u =>
   have := (h.mem k u).2 hg
   exact absurd (List.mem_map_of_mem (f := (·.key)) this) p3
 have hput : putT kind m k v = setM m k (fitV kind v) := by unfold putT; rw [hno]; show setM m k (Cv kind val0 v) = _; rw [U8]
 rw [hput]
 refine ⟨Pf h.nodup, ?_, fun k' v' => ?_⟩
 ·rw [List.map_append, List.map_cons, List.map_take, List.map_drop]; exact p1
 ·rw [Tf h.nodup, List.mem_append, List.mem_cons]
  have hsplit : Bt k' v' ∈ t ↔ Bt k' v' ∈ t.take j ∨ Bt k' v' ∈ t.drop j := by rw [← List.mem_append, List.take_append_drop]
  by_cases hk : k' = k
  ·subst hk
   rw [if_pos rfl]
   have hnt : ¬ Bt k' v' ∈ t := fun hm => p3 (List.mem_map_of_mem (f := (·.key)) hm)
   rw [hsplit] at hnt
   constructor
   ·rintro (e | e | e)
    ·exact absurd (.inl e) hnt
    ·rw [(H6 e).2]
    ·exact absurd (.inr e) hnt
   ·intro e
    right; left
    rw [Option.some.inj e]
  ·rw [if_neg hk, ← h.mem k' v', hsplit]
   constructor
   ·rintro (e | e | e)
    ·exact .inl e
    ·exact absurd (H6 e).1 hk
    ·exact .inr e
   ·rintro (e | e)
    ·exact .inl e
    ·exact .inr (.inr e)
theorem Abq {kind : Int} {m : Tab} {t : List Am} {k : Int} {v : ValV} {j : Nat} {x : Am} (h : Same m t) (hx : t[j]? = some x) (hk : x.key = k) :
  Same (putT kind m k v) (t.set j (Bt k (Cv kind x.val v))) := by
 subst hk
 have hmem := List.mem_of_getElem? hx
 have hg : getM m x.key = some x.val := (h.mem _ _).1 (by rw [Oz]; exact hmem)
 have hput : putT kind m x.key v = setM m x.key (Cv kind x.val v) := by unfold putT; rw [hg]; rfl
 rw [hput]
 have hkeys : (t.set j (Bt x.key (Cv kind x.val v))).map (·.key) = t.map (·.key) := by
  apply List.ext_getElem?
  intro i
  rw [List.getElem?_map, List.getElem?_map, List.getElem?_set]
  by_cases hi : j = i
  ·subst hi; rw [if_pos rfl, if_pos (List.getElem?_eq_some_iff.1 hx).1, hx]; rfl
  ·rw [if_neg hi]
 refine ⟨Pf h.nodup, by rw [hkeys]; exact h.rise, fun k' v' => ?_⟩
 rw [Tf h.nodup]
 have hs := Dp (x := Bt x.key (Cv kind x.val v)) (y := Bt k' v') hx
 have hs' : Bt k' v' ∈ t.set j (Bt x.key (Cv kind x.val v)) ↔ Bt k' v' = Bt x.key (Cv kind x.val v) ∨ ∃ i, i ≠ j ∧ t[i]? = some (Bt k' v') := by
  rw [← hs]; exact ⟨fun h => ⟨_, h, rfl⟩, fun ⟨q, hq, e⟩ => e ▸ hq⟩
 rw [hs']
 have hother : ∀ i y, i ≠ j → t[i]? = some y → y.key ≠ x.key := by
  intro i y hi hy he
  have e1 : (t.map (·.key))[i]? = some y.key := by rw [List.getElem?_map, hy]; rfl
  have e2 : (t.map (·.key))[j]? = some x.key := by rw [List.getElem?_map, hx]; rfl
  obtain ⟨i1, e1⟩ := List.getElem?_eq_some_iff.1 e1
  obtain ⟨i2, e2⟩ := List.getElem?_eq_some_iff.1 e2
  have hp := List.pairwise_iff_getElem.1 h.rise
  rcases Nat.lt_or_gt_of_ne hi with hlt | hlt
  ·have := hp i j i1 i2 hlt; rw [e1, e2] at this; omega
  ·have := hp j i i2 i1 hlt; rw [e1, e2] at this; omega
 by_cases hk : k' = x.key
 ·subst hk
  rw [if_pos rfl]
  constructor
  ·rintro (e | ⟨i, hi, e⟩)
   ·rw [(H6 e).2]
   ·exact absurd rfl (hother i (Bt x.key v') hi e)
  ·intro e
   left; rw [Option.some.inj e]
 ·rw [if_neg hk, ← h.mem k' v']
  constructor
  ·rintro (e | ⟨i, hi, e⟩)
   ·exact absurd (H6 e).1 hk
   ·exact List.mem_of_getElem? e
  ·intro e
   obtain ⟨i, hi⟩ := List.getElem?_of_mem e
   refine .inr ⟨i, fun hij => ?_, hi⟩
   subst hij
   rw [hx] at hi
   exact hk (congrArg Am.key (Option.some.inj hi)).symm
theorem Own.setVal {w : World} {B : Nat} {e : TypeId} {a : Option Addr} {n c : Nat} {l : List Am} (h : Own w B e Enc.pair a n c l) {i : Nat} {x : Am} (hi : l[i]? = some x) (v : ValV) :
  ∃ g, a = some ⟨g, 0, none⟩ ∧ Af w ⟨g, i * 3 + 1, none⟩ 0 [.bool v.has, .int .u64 v.bits] ∧ Own (setCells w ⟨g, i * 3 + 1, none⟩ 0 [.bool v.has, .int .u64 v.bits]) B e Enc.pair a n c (l.set i (Bt x.key v)) ∧ Upd (fun b => b = g) w (setCells w ⟨g, i * 3 + 1, none⟩ 0 [.bool v.has, .int .u64 v.bits]) := by
 obtain ⟨g, hg, hR, hO, hU⟩ := h.set1 (i := i) (x := x) (x' := ⟨x.key, v.has, x.bits⟩) (v := .bool v.has) (j := 1) hi (by decide) (by simp [Enc.pair])
 obtain ⟨g', hg', hR', -, -⟩ := h.set1 (i := i) (x := x) (x' := ⟨x.key, x.has, v.bits⟩) (v := .int .u64 v.bits) (j := 2) hi (by decide) (by simp [Enc.pair])
 rw [hg] at hg'; cases hg'
 have hlt := (List.getElem?_eq_some_iff.1 hi).1
 obtain ⟨g', hg', hR2, hO2, hU2⟩ := hO.set1 (i := i) (x := ⟨x.key, v.has, x.bits⟩) (x' := Bt x.key v) (v := .int .u64 v.bits) (j := 2) (by rw [List.getElem?_set, if_pos rfl, if_pos hlt]) (by decide) (by simp [Enc.pair, Bt])
 rw [hg] at hg'; cases hg'
 have e1 : i * Enc.pair.sz + 1 = i * 3 + 1 := rfl
 have e2 : i * Enc.pair.sz + 2 = i * 3 + 2 := rfl
 rw [e1] at hR hO hU
 rw [e2] at hR'
 have eset : setCells w ⟨g, i * 3 + 1, none⟩ 0 [.bool v.has, .int .u64 v.bits] = setCells (setCells w ⟨g, i * 3 + 1, none⟩ 0 [.bool v.has]) ⟨g, i * 3 + 2, none⟩ 0 [.int .u64 v.bits] := by
  simp only [setCells, Au]
 rw [e2] at hO2 hU2
 rw [e1] at hO2 hU2
 rw [List.set_set] at hO2
 refine ⟨g, hg, ⟨hR.1, ?_, trivial⟩, by rw [eset]; exact hO2, by rw [eset]; exact hU.trans hU2⟩
 have := hR'.1
 rw [Au] at this ⊢
 exact this
structure Form (kind : Int) (v : ValV) : Prop where
 fit : fitV kind v = v
 wide : v.Fits
def bOne (list : List OpV) (kind : Int) (m : Tab × Int) (r : RecV) : Tab × Int := if (runB list r).2 = 1 then (putT kind m.1 (runB list r).1.key (ofV kind (runB list r).1.val), m.2) else if (runB list r).2 = 3 then (m.1, IntKind.i64.wrap (m.2 + 1)) else m
def bAll (list : List OpV) (kind : Int) (rs : List RecV) : Tab × Int := rs.foldl (bOne list kind) ([], 0)
def Tt (list : List OpV) (kind : Int) (rs : List RecV) : List (Int × ValV) := rs.filterMap fun r => if (runB list r).2 = 1 then some ((runB list r).1.key, ofV kind (runB list r).1.val) else none
theorem Tu (list : List OpV) (kind : Int) : ∀ (rs : List RecV) (m : Tab × Int), (rs.foldl (bOne list kind) m).1 = (Tt list kind rs).foldl (fun m p => putT kind m p.1 p.2) m.1
 | [], m => rfl
 | r :: rs, m => by
  show (rs.foldl (bOne list kind) (bOne list kind m r)).1 = _
  rw [Tu list kind rs]
  unfold Tt bOne
  rw [List.filterMap_cons]
  by_cases h1 : (runB list r).2 = 1
  ·rw [if_pos h1, if_pos h1]; rfl
  ·rw [if_neg h1, if_neg h1]
   by_cases h3 : (runB list r).2 = 3
   ·rw [if_pos h3]
   ·rw [if_neg h3]
end Go.Sx
namespace Go.Sx
set_option linter.unusedVariables false
theorem Row.at {w : World} {g : Nat} {e : TypeId} {cs : List Value} (h : Row w g e cs) (o n : Nat) : Ae w ⟨g, o, none⟩ 0 ((cs.drop o).take n) := by
 refine Ko h o _ 0 fun j v hj => ?_
 rw [List.getElem?_take, List.getElem?_drop] at hj
 split at hj
 ·simpa using hj
 ·cases hj
structure AttV where
 number : Int
 ends : List Int
 pairs : List (List Am)
 begun : Bool
 applied : List Int
structure Ac where
 plan : Bd
 node : Int
 held : List (Int × AttV)
def Ac.say (V : Ac) (m : MsgV) (kind to : Int) : MsgV := ⟨kind, V.node, to, m.batch, m.att, 0, [], [], []⟩
def Ac.find (V : Ac) (m : MsgV) : Option AttV := match getM V.held m.batch with
 | some a => if a.number = m.att then some a else none
 | none => none
def Ac.setA (V : Ac) (k : Int) (a : AttV) : Ac := { V with held := setM V.held k a }
def Ac.newA (V : Ac) (s : SrcV) (m : MsgV) : AttV :=
 ⟨m.att, (Bp s m.ends V.plan.batch).to, Gx V.plan.stores (Bv (bAll V.plan.ops V.plan.agg (Bp s m.ends V.plan.batch).recs).1), false, []⟩
def Ac.stale (V : Ac) (m : MsgV) : Bool := match getM V.held m.batch with
 | some a => decide (m.att ≤ a.number)
 | none => false
def Ac.assign (V : Ac) (s : SrcV) (m : MsgV) : Ac × List MsgV :=
 if V.stale m = true then (V, []) else
  if (Bp s m.ends V.plan.batch).err ≠ 0 then (V, []) else
   (V.setA m.batch (V.newA s m), [{ V.say m 2 0 with ends := (Bp s m.ends V.plan.batch).to }])
def Ac.begins (V : Ac) (m : MsgV) (a : AttV) (i : Nat) : MsgV := { V.say m 4 (1 + V.plan.workers + (i : Int)) with keys := (a.pairs.getD i []).map (·.key) }
def Ac.begin (V : Ac) (m : MsgV) : Ac × List MsgV := match V.find m with
 | none => (V, [])
 | some a => if a.begun = true ∨ a.ends ≠ m.ends then (V, []) else (V.setA m.batch { a with begun := true }, (List.range V.plan.stores.toNat).map (V.begins m a))
def addN (l : List Int) (k : Int) : List Int := if k ∈ l then l else l ++ [k]
def Ac.answer (V : Ac) (m : MsgV) : Ac × List MsgV := match V.find m with
 | none => (V, [])
 | some a => if a.begun = false then (V, []) else if m.code ≠ 0 then ({ V with held := delM V.held m.batch }, []) else
  if m.kind = 5 then (V, [{ V.say m 6 m.frm with pairs := a.pairs.getD (m.frm - 1 - V.plan.workers).toNat [] }]) else
   (V.setA m.batch { a with applied := addN a.applied m.frm }, if ((addN a.applied m.frm).length : Int) < V.plan.stores then [] else [{ V.say m 8 0 with ends := a.ends }])
structure Nf where
 w : Ac
 l : List MsgV
 e : Int
def Nf.of (x : Ac × List MsgV) : Nf := ⟨x.1, x.2, 0⟩
def Ac.take (V : Ac) (s : SrcV) (m : MsgV) : Nf :=
 if Bl m = false then ⟨V, [], 150⟩ else if m.to ≠ V.node then ⟨V, [], 170⟩ else
  if m.kind = 1 ∧ Ax V.plan m.frm = 1 then .of (V.assign s m) else
   if m.kind = 3 ∧ Ax V.plan m.frm = 1 then .of (V.begin m) else
    if (m.kind = 5 ∨ m.kind = 7) ∧ Ax V.plan m.frm = 3 then .of (V.answer m) else ⟨V, [], 0⟩
structure Tv where
 batch : Int
 att : Int
 ends : List Int
 begun : Bool
 applied : Int
def Ml (k : Int) (a : AttV) : Tv := ⟨k, a.number, a.ends, a.begun, a.applied.length⟩
def att0 : AttV := ⟨0, [], [], false, []⟩
def Ac.tell (V : Ac) : List Tv := (B3 (V.held.map (·.1))).map fun k => Ml k ((getM V.held k).getD att0)
structure AttV.Ok (p : Bd) (a : AttV) : Prop where
 ends : a.ends.length ≤ 4 ∧ ∀ e ∈ a.ends, 0 ≤ e ∧ e ≤ 256
 num : a.pairs.length = p.stores.toNat
 pairs : ∀ l ∈ a.pairs, l.length ≤ 64 ∧ ∀ x ∈ l, x.Fits
 app : a.applied.Nodup ∧ ∀ k ∈ a.applied, k ∈ A3 p
structure Ac.Ok (V : Ac) : Prop where
 good : Nb V.plan
 ops : ∀ o ∈ V.plan.ops, o.Fits
 node : 0 ≤ V.node ∧ V.node ≤ 8
 atts : ∀ q ∈ V.held, q.2.Ok V.plan
 keys : ∀ q ∈ V.held, 1 ≤ q.1 ∧ q.1 ≤ 1099511627776
section
variable {α β : Type}
theorem Ps (f : α → β) (m : List (Int × α)) (k : Int) (x : α) : (setM m k x).map (fun q => (q.1, f q.2)) = setM (m.map fun q => (q.1, f q.2)) k (f x) := by
 unfold setM
 have e : (m.map fun q => (q.1, f q.2)).any (fun p => p.1 == k) = m.any (fun p => p.1 == k) := by rw [List.any_map]; rfl
 rw [e]
 split
 ·rw [List.map_map, List.map_map]
  apply List.map_congr_left
  intro q _
  show (fun q : Int × α => (q.1, f q.2)) (if q.1 == k then (k, x) else q) = if q.1 == k then (k, f x) else (q.1, f q.2)
  by_cases h : (q.1 == k) = true
  ·rw [if_pos h, if_pos h]
  ·rw [if_neg h, if_neg h]
 ·rw [List.map_append]; rfl
theorem Abr (f : α → β) (m : List (Int × α)) (k : Int) : (delM m k).map (fun q => (q.1, f q.2)) = delM (m.map fun q => (q.1, f q.2)) k := by
 unfold delM; rw [List.filter_map]; rfl
theorem Abs (f : α → β) (m : List (Int × α)) (k : Int) : getM (m.map fun q => (q.1, f q.2)) k = (getM m k).map f := by
 unfold getM; rw [List.find?_map]
 have e : ((fun p : Int × β => p.1 == k) ∘ fun q : Int × α => (q.1, f q.2)) = fun p => p.1 == k := rfl
 rw [e]
 cases m.find? (fun p => p.1 == k) <;> rfl
theorem Cg {m : List (Int × α)} {k : Int} {x : α} : ∀ q ∈ setM m k x, q = (k, x) ∨ (q ∈ m ∧ q.1 ≠ k) := by
 intro q hq
 unfold setM at hq
 split at hq
 ·obtain ⟨y, hy, rfl⟩ := List.mem_map.1 hq
  by_cases h : (y.1 == k) = true
  ·rw [if_pos h]; exact .inl rfl
  ·rw [if_neg h]; exact .inr ⟨hy, by simpa using h⟩
 ·rename_i h
  rcases List.mem_append.1 hq with h1 | h1
  ·refine .inr ⟨h1, fun e => h ?_⟩
   rw [List.any_eq_true]; exact ⟨q, h1, by simpa using e⟩
  ·simp at h1; exact .inl h1
theorem C3 {m : List (Int × α)} {k : Int} : ∀ q ∈ delM m k, q ∈ m ∧ q.1 ≠ k := by
 intro q hq
 unfold delM at hq
 rw [List.mem_filter] at hq
 exact ⟨hq.1, by simpa using hq.2⟩
theorem Cm {m : List (Int × α)} {k : Int} {x : α} (h : getM m k = some x) : (k, x) ∈ m := by
 unfold getM at h
 rw [Option.map_eq_some_iff] at h
 obtain ⟨y, hy, rfl⟩ := h
 have h1 := List.find?_some hy
 have h2 := List.mem_of_find?_eq_some hy
 simp only [beq_iff_eq] at h1
 subst h1; exact h2
theorem Aeg {m : List (Int × α)} (hn : (m.map (·.1)).Nodup) {k : Int} {x y : α} (hx : (k, x) ∈ m) (hy : (k, y) ∈ m) : x = y := by
 induction m with
 | nil => cases hx
 | cons p m ih =>
  rw [List.map_cons, List.nodup_cons] at hn
  rcases List.mem_cons.1 hx with e1 | h1
  ·rcases List.mem_cons.1 hy with e2 | h2
   ·rw [← e2] at e1; exact (Prod.mk.inj e1).2
   ·exact (hn.1 (by rw [← e1]; exact List.mem_map_of_mem (f := (·.1)) h2)).elim
  ·rcases List.mem_cons.1 hy with e2 | h2
   ·exact (hn.1 (by rw [← e2]; exact List.mem_map_of_mem (f := (·.1)) h1)).elim
   ·exact ih hn.2 h1 h2
end
section
variable {α : Type}
theorem Tw : ∀ {ks : List Int} {ps : List α} {i : Nat} {k : Int} {x : α}, ks.Nodup → ks[i]? = some k → ps[i]? = some x → getM (ks.zip ps) k = some x
 | [], _, _, _, _, _, h, _ => by simp at h
 | _ :: _, [], _, _, _, _, _, h => by simp at h
 | a :: ks, y :: ps, i, k, x, hn, hk, hx => by
  rw [List.nodup_cons] at hn
  cases i with
  | zero =>
   simp only [List.getElem?_cons_zero, Option.some.injEq] at hk hx
   subst hk; subst hx
   unfold getM; rw [List.zip_cons_cons, List.find?_cons_of_pos (by simp)]; rfl
  | succ i =>
   rw [List.getElem?_cons_succ] at hk hx
   have hne : a ≠ k := fun e => hn.1 (by rw [e]; exact List.mem_of_getElem? hk)
   have := Tw hn.2 hk hx
   unfold getM at *
   rw [List.zip_cons_cons, List.find?_cons_of_neg (by simpa using hne)]; exact this
theorem Adt {ks : List Int} {ps : List α} {i : Nat} {k : Int} {x : α} (hk : ks[i]? = some k) (hx : ps[i]? = some x) : (ks.zip ps)[i]? = some (k, x) := by
 rw [List.getElem?_zip_eq_some]; exact ⟨hk, hx⟩
end
theorem Kk (p : Bd) : (A3 p).Nodup := by
 unfold A3
 rw [List.Nodup, List.pairwise_map]
 exact List.nodup_range.imp fun h e => h (by omega)
theorem Ng {p : Bd} {k : Int} : k ∈ A3 p ↔ ∃ i : Nat, i < p.stores.toNat ∧ k = 1 + p.workers + (i : Int) := by
 unfold A3
 rw [List.mem_map]
 constructor
 ·rintro ⟨i, hi, rfl⟩; exact ⟨i, List.mem_range.1 hi, rfl⟩
 ·rintro ⟨i, hi, rfl⟩; exact ⟨i, List.mem_range.2 hi, rfl⟩
theorem Nh {p : Bd} (h : Nb p) {k : Int} (h3 : Ax p k = 3) : ∃ i : Nat, i < p.stores.toNat ∧ k = 1 + p.workers + (i : Int) := by
 have hg : C0 p = true := C1.2 h
 have := h.workers; have := h.stores
 unfold Ax E7 at h3
 rw [if_pos hg] at h3
 split at h3
 ·cases h3
 ·split at h3
  ·cases h3
  ·split at h3
   ·cases h3
   ·exact ⟨(k - 1 - p.workers).toNat, by omega, by omega⟩
theorem Abt {p : Bd} (h : Nb p) {k : Int} (h0 : 0 ≤ k) (h1 : k < 1 + p.workers + p.stores) : Ax p k = if k = 0 then 1 else if k < 1 + p.workers then 2 else 3 := by
 have hg : C0 p = true := C1.2 h
 unfold Ax E7
 rw [if_pos hg, if_neg (by omega)]
theorem Tx {p : Bd} (h : Nb p) {k : Nat} (hk : (k : Int) < 1 + p.workers + p.stores) : (A3 p).take (k + 1 - (1 + p.workers).toNat) = if Ax p (k : Int) = 3 then (A3 p).take (k - (1 + p.workers).toNat) ++ [(k : Int)] else (A3 p).take (k - (1 + p.workers).toNat) := by
 have := h.workers; have := h.stores
 rw [Abt h (by omega) hk]
 by_cases h0 : (k : Int) < 1 + p.workers
 ·have e1 : k + 1 - (1 + p.workers).toNat = 0 := by omega
  have e2 : k - (1 + p.workers).toNat = 0 := by omega
  rw [e1, e2]
  rw [if_neg]
  split
  ·decide
  ·decide
 ·have hk0 : (k : Int) ≠ 0 := by omega
  rw [if_neg hk0, if_neg h0, if_pos rfl]
  have e1 : k + 1 - (1 + p.workers).toNat = (k - (1 + p.workers).toNat) + 1 := by omega
  rw [e1, Ak (x := (k : Int)) ?_]
  rw [C6 (by omega)]
  congr 1; omega
structure AttX where
 b : Nat
 e : Sl3
 pm : Nat
 am : Nat
 ps : List Sl3
 c : AttV
def slF : Sl3 → Value := fun p => .slice p.1 p.2.1 p.2.2
def attF : AttX → Value := fun x => .pointer (some ⟨x.b, 0, none⟩)
def D6 (x : AttX) (b : Nat) : Prop := b = x.b ∨ b = x.pm ∨ b = x.am ∨ Blk x.e.1 b ∨ Pn x.ps b
section
variable {tA tI tP : TypeId}
structure Eg (tA tI tP : TypeId) (p : Bd) (w : World) (B : Nat) (x : AttX) : Prop where
 row : Row w x.b tA [.int .i64 x.c.number, .slice x.e.1 x.e.2.1 x.e.2.2, .map (some x.pm), .bool x.c.begun, .map (some x.am)]
 ends : Own w B tI (Enc.int .i64) x.e.1 x.e.2.1 x.e.2.2 x.c.ends
 deal : Dq tP w B x.ps x.c.pairs
 pmap : Av w x.pm .i64 slF ((A3 p).zip x.ps)
 amap : Av w x.am .i64 Kh (x.c.applied.map fun k => (k, ()))
 lo : B ≤ x.b ∧ B ≤ x.pm ∧ B ≤ x.am
 ne : x.pm ≠ x.am
theorem Eg.foot {p : Bd} {w : World} {B : Nat} {x : AttX} (h : Eg tA tI tP p w B x) {b : Nat} (hb : D6 x b) : B ≤ b ∧ b < w.heap.size := by
 rcases hb with rfl | rfl | rfl | hb | hb
 ·exact ⟨h.lo.1, h.row.lt⟩
 ·exact ⟨h.lo.2.1, h.pmap.lt⟩
 ·exact ⟨h.lo.2.2, h.amap.lt⟩
 ·exact h.ends.blk hb
 ·exact h.deal.feet hb
theorem Eg.upd {S : Nat → Prop} {p : Bd} {w w' : World} {B : Nat} {x : AttX} (h : Eg tA tI tP p w B x) (hu : Upd S w w') (hn : ∀ b, D6 x b → ¬ S b) : Eg tA tI tP p w' B x :=
 ⟨h.row.upd hu (hn _ (.inl rfl)), h.ends.upd hu fun b hb => hn b (.inr (.inr (.inr (.inl hb)))), h.deal.upd hu fun b hb => hn b (.inr (.inr (.inr (.inr hb)))), h.pmap.upd hu (hn _ (.inr (.inl rfl))), h.amap.upd hu (hn _ (.inr (.inr (.inl rfl)))), h.lo, h.ne⟩
theorem Eg.grew {p : Bd} {w w' : World} {B : Nat} {x : AttX} (h : Eg tA tI tP p w B x) (hg : Grew w w') : Eg tA tI tP p w' B x :=
 ⟨h.row.grew hg, h.ends.grew hg, h.deal.grew hg, h.pmap.grew hg, h.amap.grew hg, h.lo, h.ne⟩
theorem Eg.base {p : Bd} {w : World} {B B' : Nat} {x : AttX} (h : Eg tA tI tP p w B x) (hb : B' ≤ B) : Eg tA tI tP p w B' x :=
 ⟨h.row, h.ends.base hb, h.deal.base hb, h.pmap, h.amap, ⟨by have := h.lo; omega, by have := h.lo; omega, by have := h.lo; omega⟩, h.ne⟩
end
structure A6 where
 p : Nat
 o : Sl3
 h : Nat
 l : List (Int × AttX)
def C8 (X : A6) (b : Nat) : Prop := b = X.p ∨ b = X.h ∨ Blk X.o.1 b ∨ ∃ q ∈ X.l, D6 q.2 b
structure Q1 where
 W : TypeId
 O : TypeId
 A : TypeId
 I : TypeId
 P : TypeId
structure Q1.Ok (t : Q1) : Prop where
 WO : t.W ≠ t.O
 WA : t.W ≠ t.A
 WI : t.W ≠ t.I
 WP : t.W ≠ t.P
 OA : t.O ≠ t.A
 OI : t.O ≠ t.I
 OP : t.O ≠ t.P
 AI : t.A ≠ t.I
 AP : t.A ≠ t.P
 IP : t.I ≠ t.P
structure Bg (t : Q1) (w : World) (B : Nat) (X : A6) (V : Ac) : Prop where
 row : Row w X.p t.W [.int .i64 V.plan.parts, .int .i64 V.plan.stores, .int .i64 V.plan.workers, .slice X.o.1 X.o.2.1 X.o.2.2, .int .i64 V.plan.agg, .int .i64 V.plan.batch, .int .i64 V.plan.window, .int .i64 V.plan.giveUp, .int .i64 V.node, .map (some X.h)]
 ops : Own w B t.O Enc.op3 X.o.1 X.o.2.1 X.o.2.2 V.plan.ops
 map : Av w X.h .i64 attF X.l
 held : X.l.map (fun q => (q.1, q.2.c)) = V.held
 atts : ∀ q ∈ X.l, Eg t.A t.I t.P V.plan w B q.2
 apart : ∀ q ∈ X.l, ∀ r ∈ X.l, q.1 ≠ r.1 → ∀ b, D6 q.2 b → ¬ D6 r.2 b
 hne : ∀ q ∈ X.l, ¬ D6 q.2 X.h
 lo : B ≤ X.p ∧ B ≤ X.h
 ok : V.Ok
section
variable {t : Q1} {α : Type}
theorem Bg.foot {w : World} {B : Nat} {X : A6} {V : Ac} (h : Bg t w B X V) {b : Nat} (hb : C8 X b) : B ≤ b ∧ b < w.heap.size := by
 rcases hb with rfl | rfl | hb | ⟨q, hq, hb⟩
 ·exact ⟨h.lo.1, h.row.lt⟩
 ·exact ⟨h.lo.2, h.map.lt⟩
 ·exact h.ops.blk hb
 ·exact (h.atts q hq).foot hb
theorem Bg.upd {S : Nat → Prop} {w w' : World} {B : Nat} {X : A6} {V : Ac} (h : Bg t w B X V) (hu : Upd S w w') (hn : ∀ b, C8 X b → ¬ S b) : Bg t w' B X V :=
 ⟨h.row.upd hu (hn _ (.inl rfl)), h.ops.upd hu fun b hb => hn b (.inr (.inr (.inl hb))), h.map.upd hu (hn _ (.inr (.inl rfl))), h.held, fun q hq => (h.atts q hq).upd hu fun b hb => hn b (.inr (.inr (.inr ⟨q, hq, hb⟩))), h.apart, h.hne, h.lo, h.ok⟩
theorem Bg.grew {w w' : World} {B : Nat} {X : A6} {V : Ac} (h : Bg t w B X V) (hg : Grew w w') : Bg t w' B X V :=
 ⟨h.row.grew hg, h.ops.grew hg, h.map.grew hg, h.held, fun q hq => (h.atts q hq).grew hg, h.apart, h.hne, h.lo, h.ok⟩
theorem Bg.base {w : World} {B B' : Nat} {X : A6} {V : Ac} (h : Bg t w B X V) (hb : B' ≤ B) : Bg t w B' X V :=
 ⟨h.row, h.ops.base hb, h.map, h.held, fun q hq => (h.atts q hq).base hb, h.apart, h.hne, ⟨by have := h.lo; omega, by have := h.lo; omega⟩, h.ok⟩
theorem Bg.get {w : World} {B : Nat} {X : A6} {V : Ac} (h : Bg t w B X V) (k : Int) : getM V.held k = (getM X.l k).map (·.c) := by rw [← h.held]; exact Abs _ _ _
structure B7 (t : Q1) (w : World) (B : Nat) (X : A6) (w' : World) (X' : A6) (V' : Ac) : Prop where
 at_ : Bg t w' B X' V'
 p : X'.p = X.p
 upd : Upd (C8 X) w w'
 foot : ∀ b, C8 X' b → C8 X b ∨ w.heap.size ≤ b
theorem B7.still {w w' : World} {B : Nat} {X : A6} {V : Ac} (h : Bg t w B X V) (hg : Grew w w') : B7 t w B X w' X V := ⟨h.grew hg, rfl, hg.upd, fun b hb => .inl hb⟩
theorem B7.more {w w' w'' : World} {B : Nat} {X X' : A6} {V' : Ac} (h : B7 t w B X w' X' V') (hg : Grew w' w'') : B7 t w B X w'' X' V' := ⟨h.at_.grew hg, h.p, h.upd.then_grew hg, h.foot⟩
theorem B7.pre {w0 w w' : World} {B : Nat} {X X' : A6} {V' : Ac} (h : B7 t w B X w' X' V') (hg : Grew w0 w) : B7 t w0 B X w' X' V' := ⟨h.at_, h.p, hg.then_upd h.upd, fun b hb => (h.foot b hb).imp id fun h => Nat.le_trans hg.size h⟩
theorem Vk {w : World} {b : Nat} {q : IntKind} {F : α → Value} {m m' : List (Int × α)} (h : Av w b q F m) (e : m'.map (fun p => (p.1, F p.2)) = m.map (fun p => (p.1, F p.2))) : Av w b q F m' := by
 obtain ⟨es, ck, h1, h2, h3, h4⟩ := h
 refine ⟨es, ck, h1, ?_, h3, fun p hp => ?_⟩
 ·have := congrArg (List.map fun p : Int × Value => (Value.int q p.1, p.2)) e
  rw [List.map_map, List.map_map] at this
  rw [h2]; exact this.symm
 ·have hm : (p.1, F p.2) ∈ m.map (fun p => (p.1, F p.2)) := by rw [← e]; exact List.mem_map_of_mem (f := fun p : Int × α => (p.1, F p.2)) hp
  obtain ⟨p', hp', e'⟩ := List.mem_map.1 hm
  have e1 : p'.1 = p.1 := (Prod.mk.inj e').1
  rw [← e1]; exact h4 p' hp'
theorem Bg.next {S : Nat → Prop} {w w' : World} {B : Nat} {X : A6} {V V' : Ac} {l' : List (Int × AttX)} (h : Bg t w B X V) (hu : Upd S w w') (hS : ∀ b, S b → C8 X b ∧ b ≠ X.p ∧ ¬ Blk X.o.1 b) (hp : V'.plan = V.plan) (hn : V'.node = V.node)
  (hmap : Av w' X.h .i64 attF l') (hheld : l'.map (fun q => (q.1, q.2.c)) = V'.held) (hatts : ∀ q ∈ l', Eg t.A t.I t.P V.plan w' B q.2) (hap : ∀ q ∈ l', ∀ r ∈ l', q.1 ≠ r.1 → ∀ b, D6 q.2 b → ¬ D6 r.2 b) (hne : ∀ q ∈ l', ¬ D6 q.2 X.h) (hok : V'.Ok)
  (hf : ∀ q ∈ l', ∀ b, D6 q.2 b → C8 X b ∨ w.heap.size ≤ b) : B7 t w B X w' { X with l := l' } V' := by
 refine ⟨⟨by rw [hp, hn]; exact h.row.upd hu fun e => (hS _ e).2.1 rfl, by rw [hp]; exact h.ops.upd hu fun b hb e => (hS b e).2.2 hb, hmap, hheld, by rw [hp]; exact hatts, hap, hne, h.lo, hok⟩, rfl, hu.mono fun b _ e => (hS b e).1, fun b hb => ?_⟩
 rcases hb with rfl | rfl | hb | ⟨q, hq, hb⟩
 ·exact .inl (.inl rfl)
 ·exact .inl (.inr (.inl rfl))
 ·exact .inl (.inr (.inr (.inl hb)))
 ·exact hf q hq b hb
theorem Bg.mapS {w : World} {B : Nat} {X : A6} {V : Ac} (h : Bg t w B X V) : ∀ b, b = X.h → C8 X b ∧ b ≠ X.p ∧ ¬ Blk X.o.1 b := by
 rintro b rfl
 exact ⟨.inr (.inl rfl), fun e => h.map.row_ne h.row e.symm, h.map.own_ne h.ops⟩
theorem Ac.Ok.setA {V : Ac} (h : V.Ok) {k : Int} {a : AttV} (hk : 1 ≤ k ∧ k ≤ 1099511627776) (ha : a.Ok V.plan) : (V.setA k a).Ok := by
 refine ⟨h.good, h.ops, h.node, fun q hq => ?_, fun q hq => ?_⟩
 ·rcases Cg q hq with rfl | ⟨hq, -⟩
  ·exact ha
  ·exact h.atts q hq
 ·rcases Cg q hq with rfl | ⟨hq, -⟩
  ·exact hk
  ·exact h.keys q hq
theorem Bg.put {w0 w w' : World} {B : Nat} {X : A6} {V : Ac} (h : Bg t w0 B X V) (hg : Grew w0 w) {k : Int} {y : AttX} (hk : 1 ≤ k ∧ k ≤ 1099511627776) (hy : Eg t.A t.I t.P V.plan w B y) (hok : y.c.Ok V.plan)
  (hf : ∀ b, D6 y b → w0.heap.size ≤ b) (hmap : Av w' X.h .i64 attF (setM X.l k y)) (hu : Upd (fun b => b = X.h) w w') :
  B7 t w0 B X w' { X with l := setM X.l k y } (V.setA k y.c) := by
 have hyh : ¬ D6 y X.h := fun hb => by have := hf _ hb; have := h.map.lt; omega
 have hyq : ∀ q ∈ X.l, ∀ b, D6 y b → ¬ D6 q.2 b := fun q hq b h1 h2 => by have := hf _ h1; have := ((h.atts q hq).foot h2).2; omega
 have hg' := hg.then_upd hu
 refine h.next hg' h.mapS rfl rfl hmap (by rw [Ps, h.held]; rfl) (fun q hq => ?_) (fun q hq r hr hne b h1 h2 => ?_) (fun q hq => ?_) (h.ok.setA hk hok) (fun q hq b hb => ?_)
 ·rcases Cg q hq with rfl | ⟨hq, -⟩
  ·exact hy.upd hu fun b hb e => hyh (e ▸ hb)
  ·exact (h.atts q hq).upd hg' fun b hb e => h.hne q hq (e ▸ hb)
 ·rcases Cg q hq with rfl | ⟨hq, n1⟩
  ·rcases Cg r hr with rfl | ⟨hr, n2⟩
   ·exact hne rfl
   ·exact hyq r hr b h1 h2
  ·rcases Cg r hr with rfl | ⟨hr, n2⟩
   ·exact hyq q hq b h2 h1
   ·exact h.apart q hq r hr hne b h1 h2
 ·rcases Cg q hq with rfl | ⟨hq, -⟩
  ·exact hyh
  ·exact h.hne q hq
 ·rcases Cg q hq with rfl | ⟨hq, -⟩
  ·exact .inr (hf b hb)
  ·exact .inl (.inr (.inr (.inr ⟨q, hq, hb⟩)))
theorem Bg.del {w0 w w' : World} {B : Nat} {X : A6} {V : Ac} (h : Bg t w0 B X V) (hg : Grew w0 w) {k : Int} (hmap : Av w' X.h .i64 attF (delM X.l k)) (hu : Upd (fun b => b = X.h) w w') :
  B7 t w0 B X w' { X with l := delM X.l k } { V with held := delM V.held k } := by
 have hg' := hg.then_upd hu
 refine h.next hg' h.mapS rfl rfl hmap (by rw [Abr, h.held]) (fun q hq => ?_) (fun q hq r hr hne b h1 h2 => ?_) (fun q hq => ?_) ⟨h.ok.good, h.ok.ops, h.ok.node, fun q hq => ?_, fun q hq => ?_⟩ (fun q hq b hb => ?_)
 ·exact (h.atts q (C3 q hq).1).upd hg' fun b hb e => h.hne q (C3 q hq).1 (e ▸ hb)
 ·exact h.apart q (C3 q hq).1 r (C3 r hr).1 hne b h1 h2
 ·exact h.hne q (C3 q hq).1
 ·exact h.ok.atts q (C3 q hq).1
 ·exact h.ok.keys q (C3 q hq).1
 ·exact .inl (.inr (.inr (.inr ⟨q, (C3 q hq).1, hb⟩)))
theorem Bg.chg {S : Nat → Prop} {w w' : World} {B : Nat} {X : A6} {V : Ac} (h : Bg t w B X V) {k : Int} {x y : AttX} (hx : getM X.l k = some x) (hb : y.b = x.b) (hu : Upd S w w') (hS : ∀ b, S b → D6 x b ∧ b ≠ X.p ∧ ¬ Blk X.o.1 b)
  (hy : Eg t.A t.I t.P V.plan w' B y) (hok : y.c.Ok V.plan) (hf : ∀ b, D6 y b → D6 x b ∨ w.heap.size ≤ b) : B7 t w B X w' { X with l := setM X.l k y } (V.setA k y.c) := by
 have hm := Cm hx
 have hnd := h.map.nodup
 have hxh := h.hne _ hm
 have hap : ∀ q ∈ X.l, q.1 ≠ k → ∀ b, D6 q.2 b → ¬ D6 x b := fun q hq hne => h.apart q hq _ hm hne
 have hyq : ∀ q ∈ X.l, q.1 ≠ k → ∀ b, D6 y b → ¬ D6 q.2 b := fun q hq hne b h1 h2 => by
  rcases hf b h1 with h3 | h3
  ·exact hap q hq hne b h2 h3
  ·have := ((h.atts q hq).foot h2).2; omega
 refine h.next hu (fun b e => ⟨.inr (.inr (.inr ⟨_, hm, (hS b e).1⟩)), (hS b e).2⟩) rfl rfl ?_ (by rw [Ps, h.held]; rfl) (fun q hq => ?_) (fun q hq r hr hne b h1 h2 => ?_) (fun q hq hc => ?_) (h.ok.setA (h.ok.keys (k, x.c) (by rw [← h.held]; exact List.mem_map_of_mem (f := fun q : Int × AttX => (q.1, q.2.c)) hm)) hok) (fun q hq b hb => ?_)
 ·refine Vk (h.map.upd hu fun e => hxh (hS _ e).1) ?_
  rw [Ps]
  have ha : X.l.any (fun p => p.1 == k) = true := by rw [List.any_eq_true]; exact ⟨_, hm, by simp⟩
  have ha' : (X.l.map fun q => (q.1, attF q.2)).any (fun p => p.1 == k) = true := by rw [List.any_map]; exact ha
  unfold setM
  rw [if_pos ha']
  conv => rhs; rw [← List.map_id (X.l.map fun q => (q.1, attF q.2))]
  apply List.map_congr_left
  rintro ⟨i, v⟩ hv
  by_cases hi : i = k
  ·obtain ⟨q, hq, e⟩ := List.mem_map.1 hv
   have e1 := (Prod.mk.inj e).1
   have e2 := (Prod.mk.inj e).2
   have : q.2 = x := Aeg hnd (k := k) (by rw [← hi, ← e1]; exact hq) hm
   subst hi
   simp only [beq_self_eq_true, if_true, id_eq, Prod.mk.injEq, true_and]
   rw [← e2, this]; unfold attF; rw [hb]
  ·simp [hi]
 ·rcases Cg q hq with rfl | ⟨hq, n1⟩
  ·exact hy
  ·exact (h.atts q hq).upd hu fun b hb e => hap q hq n1 b hb (hS b e).1
 ·rcases Cg q hq with rfl | ⟨hq, n1⟩
  ·rcases Cg r hr with rfl | ⟨hr, n2⟩
   ·exact hne rfl
   ·exact hyq r hr n2 b h1 h2
  ·rcases Cg r hr with rfl | ⟨hr, n2⟩
   ·exact hyq q hq n1 b h2 h1
   ·exact h.apart q hq r hr hne b h1 h2
 ·rcases Cg q hq with rfl | ⟨hq, n1⟩
  ·rcases hf _ hc with h1 | h1
   ·exact hxh h1
   ·have := h.map.lt; omega
  ·exact h.hne q hq hc
 ·rcases Cg q hq with rfl | ⟨hq, n1⟩
  ·exact (hf b hb).imp (fun h1 => .inr (.inr (.inr ⟨_, hm, h1⟩))) id
  ·exact .inl (.inr (.inr (.inr ⟨q, hq, hb⟩)))
theorem Bg.att {w : World} {B : Nat} {X : A6} {V : Ac} (h : Bg t w B X V) {k : Int} {x : AttX} (hx : getM X.l k = some x) : Eg t.A t.I t.P V.plan w B x ∧ x.c.Ok V.plan ∧ (1 ≤ k ∧ k ≤ 1099511627776) := by
 have hm := Cm hx
 have hm' : (k, x.c) ∈ V.held := by rw [← h.held]; exact List.mem_map_of_mem (f := fun q : Int × AttX => (q.1, q.2.c)) hm
 exact ⟨h.atts _ hm, h.ok.atts _ hm', h.ok.keys _ hm'⟩
end
structure Hp where
 c : Tv
 e : Sl3
def Enc.held : Enc Hp := ⟨5, fun x => [.int .i64 x.c.batch, .int .i64 x.c.att, .slice x.e.1 x.e.2.1 x.e.2.2, .bool x.c.begun, .int .i64 x.c.applied], fun _ => rfl, by decide, fun x v h => by simp at h; rcases h with rfl | rfl | rfl | rfl | rfl <;> rfl⟩
structure Gk (tH tI : TypeId) (w : World) (B : Nat) (a : Option Addr) (n c : Nat) (hs : List Hp) : Prop where
 own : Own w B tH Enc.held a n c hs
 each : ∀ x ∈ hs, Own w B tI (Enc.int .i64) x.e.1 x.e.2.1 x.e.2.2 x.c.ends
theorem Gk.grew {tH tI : TypeId} {w w' : World} {B : Nat} {a : Option Addr} {n c : Nat} {hs : List Hp} (h : Gk tH tI w B a n c hs) (hg : Grew w w') : Gk tH tI w' B a n c hs := ⟨h.own.grew hg, fun x hx => (h.each x hx).grew hg⟩
theorem Gk.base {tH tI : TypeId} {w : World} {B B' : Nat} {a : Option Addr} {n c : Nat} {hs : List Hp} (h : Gk tH tI w B a n c hs) (hb : B' ≤ B) : Gk tH tI w B' a n c hs := ⟨h.own.base hb, fun x hx => (h.each x hx).base hb⟩
theorem Ac.tell_get {V : Ac} {k : Nat} {key : Int} (h : (B3 (V.held.map (·.1)))[k]? = some key) : V.tell[k]? = some (Ml key ((getM V.held key).getD att0)) := by
 unfold Ac.tell; rw [List.getElem?_map, h]; rfl
theorem Ac.tell_len (V : Ac) : V.tell.length = V.held.length := by
 unfold Ac.tell; rw [List.length_map, (Bf _).length_eq, List.length_map]
end Go.Sx
