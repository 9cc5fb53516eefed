/- The reference's workers: rows of attempts, in lists and in memory. Conditions: none. -/
import Derived.Test.YtcpkneemhfnanaaGreatSxWo
import Derived.Test.YtcpkneemhfnanaaGreatSxVa
namespace Go.Sx
set_option linter.unusedVariables false
section
variable {α : Type}
theorem Jg {m : List (Int × α)} (hn : (m.map (·.1)).Nodup) {k : Int} {x : α} : getM m k = some x ↔ (k, x) ∈ m := by
 refine ⟨Cm, fun h => ?_⟩
 cases hg : getM m k with
 | none => exact (Q0 hg _ h rfl).elim
 | some y => rw [Aeg hn (Cm hg) h]
theorem Kv (m : List (Int × α)) (k : Int) (x : α) : (setM m k x).map (·.1) = if k ∈ m.map (·.1) then m.map (·.1) else m.map (·.1) ++ [k] := by
 unfold setM
 by_cases h : k ∈ m.map (·.1)
 ·rw [if_pos h, if_pos (by obtain ⟨q, hq, e⟩ := List.mem_map.1 h; rw [List.any_eq_true]; exact ⟨q, hq, by simpa using e⟩), List.map_map]
  apply List.map_congr_left
  intro q _
  show (if q.1 == k then (k, x) else q).1 = q.1
  by_cases e : (q.1 == k) = true
  ·rw [if_pos e]; exact (by simpa using e : q.1 = k).symm
  ·rw [if_neg e]
 ·rw [if_neg h, if_neg (fun e => h (by obtain ⟨q, hq, e⟩ := List.any_eq_true.1 e; exact List.mem_map.2 ⟨q, hq, by simpa using e⟩)), List.map_append]; rfl
theorem Q8 {m : List (Int × α)} {k j : Int} {x : α} : j ∈ (setM m k x).map (·.1) ↔ j = k ∨ j ∈ m.map (·.1) := by
 rw [Kv]
 by_cases h : k ∈ m.map (·.1)
 ·rw [if_pos h]
  exact ⟨.inr, fun e => e.elim (fun e => e ▸ h) id⟩
 ·rw [if_neg h, List.mem_append, List.mem_singleton]
  exact or_comm
theorem Jh {m : List (Int × α)} (hn : (m.map (·.1)).Nodup) {k : Int} {x : α} : ((setM m k x).map (·.1)).Nodup := by
 rw [Kv]
 by_cases h : k ∈ m.map (·.1)
 ·rw [if_pos h]; exact hn
 ·rw [if_neg h, List.nodup_append]
  exact ⟨hn, by simp, fun a ha b hb e => h (by rw [List.mem_singleton] at hb; rw [← hb, ← e]; exact ha)⟩
theorem Yy {m : List (Int × α)} {k : Int} {x : α} : (k, x) ∈ setM m k x := by
 have h : k ∈ (setM m k x).map (·.1) := Q8.2 (.inl rfl)
 obtain ⟨q, hq, e⟩ := List.mem_map.1 h
 rcases Cg q hq with rfl | ⟨-, hne⟩
 ·exact hq
 ·exact (hne e).elim
theorem Vo {m : List (Int × α)} {k j : Int} {x y : α} (h : (j, y) ∈ m) (hne : j ≠ k) : (j, y) ∈ setM m k x := by
 unfold setM
 split
 ·refine List.mem_map.2 ⟨_, h, ?_⟩
  rw [if_neg (by simpa using hne)]
 ·exact List.mem_append.2 (.inl h)
theorem Yz {m : List (Int × α)} (hn : (m.map (·.1)).Nodup) {k j : Int} {x : α} : getM (setM m k x) j = if j = k then some x else getM m j := by
 by_cases e : j = k
 ·rw [if_pos e, e]; exact (Jg (Jh hn)).2 Yy
 ·rw [if_neg e]
  apply Option.ext
  intro y
  constructor
  ·intro h
   rcases Cg _ (Cm h) with h1 | ⟨h1, -⟩
   ·exact (e (Prod.mk.inj h1).1).elim
   ·exact (Jg hn).2 h1
  ·intro h
   exact (Jg (Jh hn)).2 (Vo (Cm h) e)
theorem Nj {m : List (Int × α)} (hn : (m.map (·.1)).Nodup) (k : Int) : ((delM m k).map (·.1)).Nodup := hn.sublist ((Abo m k).map _)
theorem Q9 {m : List (Int × α)} {k : Int} {q : Int × α} (h : q ∈ m) (hne : q.1 ≠ k) : q ∈ delM m k := by
 unfold delM; rw [List.mem_filter]; exact ⟨h, by simpa using hne⟩
theorem Y0 {m : List (Int × α)} {k j : Int} : j ∈ (delM m k).map (·.1) ↔ j ≠ k ∧ j ∈ m.map (·.1) := by
 constructor
 ·intro h
  obtain ⟨q, hq, rfl⟩ := List.mem_map.1 h
  exact ⟨(C3 q hq).2, List.mem_map_of_mem (f := (·.1)) (C3 q hq).1⟩
 ·rintro ⟨hne, h⟩
  obtain ⟨q, hq, rfl⟩ := List.mem_map.1 h
  exact List.mem_map_of_mem (f := (·.1)) (Q9 hq hne)
theorem Ra {m : List (Int × α)} (hn : (m.map (·.1)).Nodup) {k j : Int} (hne : j ≠ k) : getM (delM m k) j = getM m j := by
 apply Option.ext
 intro y
 rw [Jg (Nj hn k), Jg hn]
 exact ⟨fun h => (C3 _ h).1, fun h => Q9 h hne⟩
theorem H9 {m : List (Int × α)} {k : Int} (h : k ∈ m.map (·.1)) : ∃ x, getM m k = some x := by
 obtain ⟨q, hq, rfl⟩ := List.mem_map.1 h
 cases hg : getM m q.1 with
 | none => exact (Q0 hg q hq rfl).elim
 | some x => exact ⟨x, rfl⟩
theorem Y5 {m : List (Int × α)} {k : Int} {x : α} (h : getM m k = some x) : k ∈ m.map (·.1) := List.mem_map.2 ⟨_, Cm h, rfl⟩
end
structure G7 where
 batch : Int
 att : Int
 ends : List Int
 deal : List (List Am)
 begun : Bool
 applied : List Bool
def appB (p : Bd) (l : List Int) : List Bool := (A3 p).map fun k => decide (k ∈ l)
def Cd (p : Bd) (k : Int) (a : AttV) : G7 := ⟨k, a.number, a.ends, a.pairs, a.begun, appB p a.applied⟩
def Ac.keyS (V : Ac) : List Int := B3 (V.held.map (·.1))
def Ac.rowOf (V : Ac) (k : Int) : G7 := Cd V.plan k ((getM V.held k).getD att0)
def Ac.rows (V : Ac) : List G7 := V.keyS.map V.rowOf
def Ac.Nd (V : Ac) : Prop := (V.held.map (·.1)).Nodup
theorem Ac.keyS_mem {V : Ac} {k : Int} : k ∈ V.keyS ↔ k ∈ V.held.map (·.1) := Dx
theorem Ac.keyS_strict {V : Ac} (h : V.Nd) : V.keyS.Pairwise (· < ·) := Dw h
theorem Ac.rows_len {V : Ac} : V.rows.length = V.keyS.length := List.length_map ..
theorem Ac.rows_get {V : Ac} {i : Nat} {r : G7} (h : V.rows[i]? = some r) : V.keyS[i]? = some r.batch ∧ ∃ a, getM V.held r.batch = some a ∧ r = Cd V.plan r.batch a := by
 unfold Ac.rows at h
 rw [List.getElem?_map, Option.map_eq_some_iff] at h
 obtain ⟨k, hk, rfl⟩ := h
 refine ⟨hk, ?_⟩
 obtain ⟨a, ha⟩ := H9 (keyS_mem.1 (List.mem_of_getElem? hk))
 refine ⟨a, ha, ?_⟩
 show V.rowOf k = Cd V.plan k a
 unfold Ac.rowOf; rw [ha]; rfl
def Ac.Place (V : Ac) (k : Int) (i : Nat) : Prop := i ≤ V.keyS.length ∧ (∀ x ∈ V.keyS.take i, x < k) ∧ ∀ x, V.keyS[i]? = some x → k ≤ x
theorem Ac.Place.there {V : Ac} (hn : V.Nd) {k : Int} {i : Nat} (h : V.Place k i) {a : AttV} (ha : getM V.held k = some a) : V.keyS[i]? = some k := by
 obtain ⟨h1, h2, h3⟩ := h
 have hm : k ∈ V.keyS := keyS_mem.2 (Y5 ha)
 cases hx : V.keyS[i]? with
 | none => exact ((Gg (keyS_strict hn) h1 h2 (fun x e => by rw [hx] at e; cases e)).2.2 hm).elim
 | some x =>
  have h4 := h3 x hx
  by_cases e : k = x
  ·rw [e]
  ·exact ((Gg (keyS_strict hn) h1 h2 (fun y hy => by rw [hx] at hy; cases hy; omega)).2.2 hm).elim
theorem Ac.Place.not {V : Ac} {k : Int} {i : Nat} (ha : getM V.held k = none) : V.keyS[i]? ≠ some k := fun e => by
 obtain ⟨a, h⟩ := H9 (keyS_mem.1 (List.mem_of_getElem? e))
 rw [ha] at h; cases h
theorem Ac.setA_nd {V : Ac} (h : V.Nd) (k : Int) (a : AttV) : (V.setA k a).Nd := Jh h
theorem Ac.rowOf_set {V : Ac} (h : V.Nd) {k j : Int} {a : AttV} : (V.setA k a).rowOf j = if j = k then Cd V.plan k a else V.rowOf j := by
 unfold Ac.rowOf
 show Cd V.plan j ((getM (setM V.held k a) j).getD att0) = _
 rw [Yz h]
 by_cases e : j = k
 ·rw [if_pos e, if_pos e, e]; rfl
 ·rw [if_neg e, if_neg e]
theorem Ac.rows_new {V : Ac} (hn : V.Nd) {k : Int} {i : Nat} {a : AttV} (h : V.Place k i) (ha : getM V.held k = none) : (V.setA k a).rows = V.rows.take i ++ Cd V.plan k a :: V.rows.drop i := by
 obtain ⟨h1, h2, h3⟩ := h
 obtain ⟨s1, s2, s3⟩ := Gg (keyS_strict hn) h1 h2 (fun x hx => by
  have := h3 x hx
  have hne : x ≠ k := fun e => Ac.Place.not ha (e ▸ hx)
  omega)
 have ek : (V.setA k a).keyS = V.keyS.take i ++ k :: V.keyS.drop i := by
  refine E5 (keyS_strict (setA_nd hn k a)) s1 fun x => ?_
  rw [s2, keyS_mem, keyS_mem]
  exact Q8
 unfold Ac.rows
 rw [ek, List.map_append, List.map_cons, rowOf_set hn, if_pos rfl, ← List.map_take, ← List.map_drop]
 congr 1
 ·apply List.map_congr_left
  intro x hx
  rw [rowOf_set hn, if_neg (fun e => s3 (by rw [← e]; exact List.mem_of_mem_take hx))]
 ·congr 1
  apply List.map_congr_left
  intro x hx
  rw [rowOf_set hn, if_neg (fun e => s3 (by rw [← e]; exact List.mem_of_mem_drop hx))]
theorem Ac.rows_old {V : Ac} (hn : V.Nd) {k : Int} {i : Nat} {a : AttV} (h : V.keyS[i]? = some k) : (V.setA k a).rows = V.rows.set i (Cd V.plan k a) := by
 have hk : k ∈ V.held.map (·.1) := keyS_mem.1 (List.mem_of_getElem? h)
 have ek : (V.setA k a).keyS = V.keyS := by
  unfold Ac.keyS
  show B3 ((setM V.held k a).map (·.1)) = _
  rw [Kv, if_pos hk]
 unfold Ac.rows
 rw [ek]
 apply List.ext_getElem?
 intro j
 rw [List.getElem?_set, List.getElem?_map, List.getElem?_map, List.length_map]
 have hi := (List.getElem?_eq_some_iff.1 h).1
 by_cases e : i = j
 ·subst e
  rw [if_pos rfl, if_pos hi, h, Option.map_some, rowOf_set hn, if_pos rfl]
 ·rw [if_neg e]
  cases hj : V.keyS[j]? with
  | none => rfl
  | some x =>
   rw [Option.map_some, Option.map_some, rowOf_set hn, if_neg]
   intro hx
   subst hx
   have hj' := List.getElem?_eq_some_iff.1 hj
   have hi' := List.getElem?_eq_some_iff.1 h
   have st := List.pairwise_iff_getElem.1 (keyS_strict hn)
   rcases Nat.lt_or_gt_of_ne e with hlt | hlt
   ·have := st i j hi'.1 hj'.1 hlt; rw [hi'.2, hj'.2] at this; omega
   ·have := st j i hj'.1 hi'.1 hlt; rw [hi'.2, hj'.2] at this; omega
def Ac.delA (V : Ac) (k : Int) : Ac := { V with held := delM V.held k }
theorem Ac.delA_nd {V : Ac} (h : V.Nd) (k : Int) : (V.delA k).Nd := Nj h k
theorem Ac.rows_del {V : Ac} (hn : V.Nd) {k : Int} {i : Nat} (h : V.keyS[i]? = some k) : (V.delA k).rows = V.rows.take i ++ V.rows.drop (i + 1) := by
 have hs := keyS_strict hn
 have hi := List.getElem?_eq_some_iff.1 h
 have hc : V.keyS = V.keyS.take i ++ k :: V.keyS.drop (i + 1) := by
  rw [← hi.2, ← List.drop_eq_getElem_cons, List.take_append_drop]
 have hs' := hs
 rw [hc, List.pairwise_append, List.pairwise_cons] at hs'
 obtain ⟨p1, ⟨p2, p3⟩, p4⟩ := hs'
 have ek : (V.delA k).keyS = V.keyS.take i ++ V.keyS.drop (i + 1) := by
  refine E5 (keyS_strict (delA_nd hn k)) (List.pairwise_append.2 ⟨p1, p3, fun a ha b hb => p4 a ha b (List.mem_cons_of_mem _ hb)⟩) fun x => ?_
  rw [keyS_mem]
  show x ∈ (delM V.held k).map (·.1) ↔ _
  rw [Y0, ← keyS_mem, List.mem_append]
  constructor
  ·rintro ⟨hne, hx⟩
   rw [hc, List.mem_append, List.mem_cons] at hx
   rcases hx with hx | hx | hx
   ·exact .inl hx
   ·exact (hne hx).elim
   ·exact .inr hx
  ·rintro (hx | hx)
   ·exact ⟨by have := p4 x hx k (by simp); omega, List.mem_of_mem_take hx⟩
   ·exact ⟨by have := p2 x hx; omega, List.mem_of_mem_drop hx⟩
 unfold Ac.rows
 rw [ek, List.map_append, ← List.map_take, ← List.map_drop]
 congr 1
 ·apply List.map_congr_left
  intro x hx
  have hne : x ≠ k := by have := p4 x hx k (by simp); omega
  unfold Ac.rowOf
  show Cd V.plan x ((getM (delM V.held k) x).getD att0) = _
  rw [Ra hn hne]
 ·apply List.map_congr_left
  intro x hx
  have hne : x ≠ k := by have := p2 x hx; omega
  unfold Ac.rowOf
  show Cd V.plan x ((getM (delM V.held k) x).getD att0) = _
  rw [Ra hn hne]
theorem Ji (p : Bd) (l : List Int) : (appB p l).length = p.stores.toNat := by unfold appB; rw [List.length_map, Cj]
theorem T8 {p : Bd} {l : List Int} {j : Nat} (hj : j < p.stores.toNat) : appB p (addN l (1 + p.workers + (j : Int))) = (appB p l).set j true := by
 apply List.ext_getElem?
 intro i
 rw [List.getElem?_set, Ji]
 unfold appB
 rw [List.getElem?_map, List.getElem?_map]
 by_cases e : j = i
 ·subst e
  rw [if_pos rfl, if_pos hj, C6 hj, Option.map_some]
  have : 1 + p.workers + (j : Int) ∈ addN l (1 + p.workers + (j : Int)) := by unfold addN; split <;> simp_all
  simp [this]
 ·rw [if_neg e]
  by_cases hi : i < p.stores.toNat
  ·rw [C6 hi, Option.map_some, Option.map_some]
   congr 1
   have hne : (1 + p.workers + (i : Int)) ≠ 1 + p.workers + (j : Int) := by omega
   unfold addN
   split
   ·rfl
   ·simp [hne]
  ·rw [List.getElem?_eq_none (by rw [Cj]; omega)]; rfl
theorem Rb {p : Bd} {l : List Int} (hn : l.Nodup) (hl : ∀ k ∈ l, k ∈ A3 p) : (appB p l).countP id = l.length := by
 unfold appB
 rw [List.countP_map]
 have e : (id ∘ fun k : Int => decide (k ∈ l)) = fun k => decide (k ∈ l) := rfl
 rw [e, List.countP_eq_length_filter]
 have hp : ((A3 p).filter fun k => decide (k ∈ l)).Perm l := by
  refine (List.perm_ext_iff_of_nodup ((Kk p).sublist List.filter_sublist) hn).2 fun k => ?_
  rw [List.mem_filter]
  exact ⟨fun h => by simpa using h.2, fun h => ⟨hl k h, by simpa using h⟩⟩
 exact hp.length_eq
structure A7 where
 c : G7
 e : Sl3
 d : Sl3
 ds : List Sl3
 p : Sl3
def Enc.rheld : Enc A7 := ⟨6, fun x => [.int .i64 x.c.batch, .int .i64 x.c.att, .slice x.e.1 x.e.2.1 x.e.2.2, .slice x.d.1 x.d.2.1 x.d.2.2, .bool x.c.begun, .slice x.p.1 x.p.2.1 x.p.2.2], fun _ => rfl, by decide, fun x v h => by simp at h; rcases h with rfl | rfl | rfl | rfl | rfl | rfl <;> rfl⟩
structure Jj where
 W : TypeId
 O : TypeId
 H : TypeId
 I : TypeId
 S : TypeId
 P : TypeId
 B : TypeId
structure Jj.Ok (t : Jj) : Prop where
 WO : t.W ≠ t.O
 WH : t.W ≠ t.H
 WI : t.W ≠ t.I
 WS : t.W ≠ t.S
 WP : t.W ≠ t.P
 WB : t.W ≠ t.B
 HO : t.H ≠ t.O
 HI : t.H ≠ t.I
 HS : t.H ≠ t.S
 HP : t.H ≠ t.P
 HB : t.H ≠ t.B
 BO : t.B ≠ t.O
 BI : t.B ≠ t.I
 BS : t.B ≠ t.S
 BP : t.B ≠ t.P
def G8 (x : A7) (b : Nat) : Prop := Blk x.e.1 b ∨ Blk x.d.1 b ∨ Pn x.ds b ∨ Blk x.p.1 b
structure Bo (t : Jj) (w : World) (B : Nat) (x : A7) : Prop where
 ends : Own w B t.I (Enc.int .i64) x.e.1 x.e.2.1 x.e.2.2 x.c.ends
 dl : Own w B t.S Enc.slice x.d.1 x.d.2.1 x.d.2.2 x.ds
 deal : Dq t.P w B x.ds x.c.deal
 app : Own w B t.B Enc.boolE x.p.1 x.p.2.1 x.p.2.2 x.c.applied
theorem Dq.own_ne {α : Type} {tP e' : TypeId} {w : World} {B B' : Nat} {hs : List Sl3} {ls : List (List Am)} {E : Enc α} {a : Option Addr} {n c : Nat} {l : List α} (h : Dq tP w B hs ls) (h' : Own w B' e' E a n c l) (hne : tP ≠ e') : ∀ b, Pn hs b → ¬ Blk a b := by
 rintro b ⟨k, hk, hb⟩
 obtain ⟨i, hi⟩ := List.getElem?_of_mem hk
 have hl : i < ls.length := by rw [← h.len]; exact (List.getElem?_eq_some_iff.1 hi).1
 exact Go.Sx.own_ne (h.own i k _ hi (List.getElem?_eq_getElem hl)) h' hne b hb
theorem Dq.row_ne {tP e' : TypeId} {w : World} {B g : Nat} {hs : List Sl3} {ls : List (List Am)} {cs : List Value} (h : Dq tP w B hs ls) (h' : Row w g e' cs) (hne : e' ≠ tP) : ¬ Pn hs g := by
 rintro ⟨k, hk, hb⟩
 obtain ⟨i, hi⟩ := List.getElem?_of_mem hk
 have hl : i < ls.length := by rw [← h.len]; exact (List.getElem?_eq_some_iff.1 hi).1
 exact h'.own_ne (h.own i k _ hi (List.getElem?_eq_getElem hl)) hne hb
section
variable {t : Jj} {α : Type}
theorem Bo.foot {w : World} {B : Nat} {x : A7} (h : Bo t w B x) {b : Nat} (hb : G8 x b) : B ≤ b ∧ b < w.heap.size := by
 rcases hb with hb | hb | hb | hb
 ·exact h.ends.blk hb
 ·exact h.dl.blk hb
 ·exact h.deal.feet hb
 ·exact h.app.blk hb
theorem Bo.upd {S : Nat → Prop} {w w' : World} {B : Nat} {x : A7} (h : Bo t w B x) (hu : Upd S w w') (hn : ∀ b, G8 x b → ¬ S b) : Bo t w' B x :=
 ⟨h.ends.upd hu fun b hb => hn b (.inl hb), h.dl.upd hu fun b hb => hn b (.inr (.inl hb)), h.deal.upd hu fun b hb => hn b (.inr (.inr (.inl hb))), h.app.upd hu fun b hb => hn b (.inr (.inr (.inr hb)))⟩
theorem Bo.grew {w w' : World} {B : Nat} {x : A7} (h : Bo t w B x) (hg : Grew w w') : Bo t w' B x := ⟨h.ends.grew hg, h.dl.grew hg, h.deal.grew hg, h.app.grew hg⟩
theorem Bo.base {w : World} {B B' : Nat} {x : A7} (h : Bo t w B x) (hb : B' ≤ B) : Bo t w B' x := ⟨h.ends.base hb, h.dl.base hb, h.deal.base hb, h.app.base hb⟩
theorem Bo.offH (hD : t.Ok) {w : World} {B B' : Nat} {x : A7} {E : Enc α} {a : Option Addr} {n c : Nat} {l : List α} (h : Bo t w B x) (h' : Own w B' t.H E a n c l) : ∀ b, G8 x b → ¬ Blk a b := by
 intro b hb h2
 rcases hb with hb | hb | hb | hb
 ·exact own_ne h' h.ends hD.HI b h2 hb
 ·exact own_ne h' h.dl hD.HS b h2 hb
 ·exact h.deal.own_ne h' (fun e => hD.HP e.symm) b hb h2
 ·exact own_ne h' h.app hD.HB b h2 hb
theorem Bo.offW (hD : t.Ok) {w : World} {B g : Nat} {x : A7} {cs : List Value} (h : Bo t w B x) (h' : Row w g t.W cs) : ¬ G8 x g := by
 intro hb
 rcases hb with hb | hb | hb | hb
 ·exact h'.own_ne h.ends hD.WI hb
 ·exact h'.own_ne h.dl hD.WS hb
 ·exact h.deal.row_ne h' hD.WP hb
 ·exact h'.own_ne h.app hD.WB hb
theorem Bo.offP (hD : t.Ok) {w : World} {B B' : Nat} {x : A7} {E : Enc α} {a : Option Addr} {n c : Nat} {l : List α} (h : Bo t w B x) (h' : Own w B' t.B E a n c l) (hp : ∀ b, Blk x.p.1 b → ¬ Blk a b) : ∀ b, G8 x b → ¬ Blk a b := by
 intro b hb h2
 rcases hb with hb | hb | hb | hb
 ·exact own_ne h' h.ends hD.BI b h2 hb
 ·exact own_ne h' h.dl hD.BS b h2 hb
 ·exact h.deal.own_ne h' (fun e => hD.BP e.symm) b hb h2
 ·exact hp b hb h2
end
structure An where
 q : Nat
 o : Sl3
 l : Sl3
 hs : List A7
def Lr (X : An) (b : Nat) : Prop := b = X.q ∨ Blk X.o.1 b ∨ Blk X.l.1 b ∨ ∃ x ∈ X.hs, G8 x b
def An.vals (X : An) (V : Ac) : List Value := [.int .i64 V.plan.parts, .int .i64 V.plan.stores, .int .i64 V.plan.workers, .slice X.o.1 X.o.2.1 X.o.2.2, .int .i64 V.plan.agg, .int .i64 V.plan.batch, .int .i64 V.plan.window, .int .i64 V.plan.giveUp, .int .i64 V.node, .slice X.l.1 X.l.2.1 X.l.2.2]
def G9 (hs : List A7) : Prop := ∀ (i j : Nat) x y, i ≠ j → hs[i]? = some x → hs[j]? = some y → ∀ b, Blk x.p.1 b → ¬ Blk y.p.1 b
structure Bh (t : Jj) (w : World) (B : Nat) (X : An) (V : Ac) : Prop where
 row : Row w X.q t.W (X.vals V)
 ops : Own w B t.O Enc.op3 X.o.1 X.o.2.1 X.o.2.2 V.plan.ops
 list : Own w B t.H Enc.rheld X.l.1 X.l.2.1 X.l.2.2 X.hs
 rows : X.hs.map (·.c) = V.rows
 each : ∀ x ∈ X.hs, Bo t w B x
 apart : G9 X.hs
 lo : B ≤ X.q
 nd : V.Nd
 ok : V.Ok
section
variable {t : Jj}
theorem Bh.foot {w : World} {B : Nat} {X : An} {V : Ac} (h : Bh t w B X V) {b : Nat} (hb : Lr X b) : B ≤ b ∧ b < w.heap.size := by
 rcases hb with rfl | hb | hb | ⟨x, hx, hb⟩
 ·exact ⟨h.lo, h.row.lt⟩
 ·exact h.ops.blk hb
 ·exact h.list.blk hb
 ·exact (h.each x hx).foot hb
theorem Bh.upd {S : Nat → Prop} {w w' : World} {B : Nat} {X : An} {V : Ac} (h : Bh t w B X V) (hu : Upd S w w') (hn : ∀ b, Lr X b → ¬ S b) : Bh t w' B X V :=
 ⟨h.row.upd hu (hn _ (.inl rfl)), h.ops.upd hu fun b hb => hn b (.inr (.inl hb)), h.list.upd hu fun b hb => hn b (.inr (.inr (.inl hb))), h.rows, fun x hx => (h.each x hx).upd hu fun b hb => hn b (.inr (.inr (.inr ⟨x, hx, hb⟩))), h.apart, h.lo, h.nd, h.ok⟩
theorem Bh.grew {w w' : World} {B : Nat} {X : An} {V : Ac} (h : Bh t w B X V) (hg : Grew w w') : Bh t w' B X V :=
 ⟨h.row.grew hg, h.ops.grew hg, h.list.grew hg, h.rows, fun x hx => (h.each x hx).grew hg, h.apart, h.lo, h.nd, h.ok⟩
theorem Bh.base {w : World} {B B' : Nat} {X : An} {V : Ac} (h : Bh t w B X V) (hb : B' ≤ B) : Bh t w B' X V :=
 ⟨h.row, h.ops.base hb, h.list.base hb, h.rows, fun x hx => (h.each x hx).base hb, h.apart, Nat.le_trans hb h.lo, h.nd, h.ok⟩
theorem Bh.len {w : World} {B : Nat} {X : An} {V : Ac} (h : Bh t w B X V) : X.hs.length = V.keyS.length ∧ X.l.2.1 = X.hs.length := by
 refine ⟨?_, h.list.len⟩
 rw [← V.rows_len, ← h.rows, List.length_map]
theorem Bh.get {w : World} {B : Nat} {X : An} {V : Ac} (h : Bh t w B X V) {i : Nat} {x : A7} (hx : X.hs[i]? = some x) : V.keyS[i]? = some x.c.batch ∧ ∃ a, getM V.held x.c.batch = some a ∧ x.c = Cd V.plan x.c.batch a := by
 refine Ac.rows_get ?_
 rw [← h.rows, List.getElem?_map, hx]; rfl
structure Bj (t : Jj) (w : World) (B : Nat) (X : An) (w' : World) (X' : An) (V' : Ac) : Prop where
 at_ : Bh t w' B X' V'
 q : X'.q = X.q
 upd : Upd (Lr X) w w'
 foot : ∀ b, Lr X' b → Lr X b ∨ w.heap.size ≤ b
theorem Bj.still {w w' : World} {B : Nat} {X : An} {V : Ac} (h : Bh t w B X V) (hg : Grew w w') : Bj t w B X w' X V := ⟨h.grew hg, rfl, hg.upd, fun b hb => .inl hb⟩
theorem Bj.more {w w' w'' : World} {B : Nat} {X X' : An} {V' : Ac} (h : Bj t w B X w' X' V') (hg : Grew w' w'') : Bj t w B X w'' X' V' := ⟨h.at_.grew hg, h.q, h.upd.then_grew hg, h.foot⟩
theorem Bj.pre {w0 w w' : World} {B : Nat} {X X' : An} {V' : Ac} (h : Bj t w B X w' X' V') (hg : Grew w0 w) : Bj t w0 B X w' X' V' := ⟨h.at_, h.q, hg.then_upd h.upd, fun b hb => (h.foot b hb).imp id fun h => Nat.le_trans hg.size h⟩
theorem Bh.next {S : Nat → Prop} {w w' : World} {B : Nat} {X X' : An} {V V' : Ac} (h : Bh t w B X V) (hD : t.Ok) (hu : Upd S w w') (hS : ∀ b, S b → b = X.q ∨ Blk X.l.1 b ∨ ∃ x ∈ X.hs, Blk x.p.1 b) (hq : X'.q = X.q) (ho : X'.o = X.o) (hp : V'.plan = V.plan)
  (hrow : Row w' X.q t.W (X'.vals V')) (hl : Own w' B t.H Enc.rheld X'.l.1 X'.l.2.1 X'.l.2.2 X'.hs) (hrows : X'.hs.map (·.c) = V'.rows) (heach : ∀ x ∈ X'.hs, Bo t w' B x) (hap : G9 X'.hs) (hnd : V'.Nd) (hok : V'.Ok)
  (hf : ∀ b, (Blk X'.l.1 b ∨ ∃ x ∈ X'.hs, G8 x b) → Lr X b ∨ w.heap.size ≤ b) : Bj t w B X w' X' V' := by
 refine ⟨⟨by rw [hq]; exact hrow, ?_, hl, hrows, heach, hap, by rw [hq]; exact h.lo, hnd, hok⟩, hq, hu.mono fun b _ hb => ?_, fun b hb => ?_⟩
 ·rw [ho, hp]
  refine h.ops.upd hu fun b hb hs => ?_
  rcases hS b hs with rfl | hb2 | ⟨x, hx, hb2⟩
  ·exact h.row.own_ne h.ops hD.WO hb
  ·exact own_ne h.list h.ops hD.HO b hb2 hb
  ·exact own_ne (h.each x hx).app h.ops hD.BO b hb2 hb
 ·rcases hS b hb with rfl | hb | ⟨x, hx, hb⟩
  ·exact .inl rfl
  ·exact .inr (.inr (.inl hb))
  ·exact .inr (.inr (.inr ⟨x, hx, .inr (.inr (.inr hb))⟩))
 ·rcases hb with rfl | hb | hb | hb
  ·exact .inl (.inl hq)
  ·exact .inl (.inr (.inl (by rw [← ho]; exact hb)))
  ·exact hf b (.inl hb)
  ·exact hf b (.inr hb)
theorem G9.set {hs : List A7} (h : G9 hs) {i : Nat} {x y : A7} (hx : hs[i]? = some x) (hb : ∀ j z, j ≠ i → hs[j]? = some z → ∀ b, Blk y.p.1 b → ¬ Blk z.p.1 b) : G9 (hs.set i y) := by
 intro j k u v hne hu hv b h1 h2
 rw [List.getElem?_set] at hu hv
 by_cases e1 : i = j
 ·rw [if_pos e1] at hu
  have e2 : ¬ i = k := fun e => hne (by omega)
  rw [if_neg e2] at hv
  split at hu
  ·cases hu; exact hb k v (fun e => e2 e.symm) hv b h1 h2
  ·cases hu
 ·rw [if_neg e1] at hu
  by_cases e2 : i = k
  ·rw [if_pos e2] at hv
   split at hv
   ·cases hv; exact hb j u (fun e => e1 e.symm) hu b h2 h1
   ·cases hv
  ·rw [if_neg e2] at hv; exact h j k u v hne hu hv b h1 h2
theorem Ls {α : Type} {l : List α} {i : Nat} {x y : α} (h : y ∈ l.set i x) : y = x ∨ ∃ j, j ≠ i ∧ l[j]? = some y := by
 obtain ⟨j, hj⟩ := List.getElem?_of_mem h
 rw [List.getElem?_set] at hj
 by_cases e : i = j
 ·rw [if_pos e] at hj
  split at hj
  ·cases hj; exact .inl rfl
  ·cases hj
 ·rw [if_neg e] at hj; exact .inr ⟨j, fun e' => e e'.symm, hj⟩
theorem _root_.Go.Sx.Own.recode {α : Type} {w : World} {B : Nat} {e : TypeId} {E : Enc α} {a : Option Addr} {n c i : Nat} {l : List α} {x y : α} (h : Own w B e E a n c l) (hx : l[i]? = some x) (hf : E.f y = E.f x) : Own w B e E a n c (l.set i y) := by
 have hfl : (l.set i y).flatMap E.f = l.flatMap E.f := by
  rw [List.flatMap_def, List.flatMap_def, List.map_set, hf]
  congr 1
  apply List.ext_getElem?
  intro j
  rw [List.getElem?_set, List.length_map]
  by_cases e : i = j
  ·subst e; rw [if_pos rfl, if_pos (List.getElem?_eq_some_iff.1 hx).1, List.getElem?_map, hx]; rfl
  ·rw [if_neg e]
 exact ⟨by rw [List.length_set]; exact h.1, by rw [hfl]; exact h.2⟩
def An.setH (X : An) (i : Nat) (x : A7) : An := { X with hs := X.hs.set i x }
theorem Bh.lay {w0 w w' : World} {B : Nat} {X : An} {V : Ac} (h : Bh t w0 B X V) (hD : t.Ok) (hg : Grew w0 w) {i : Nat} {k : Int} {a : AttV} {x y : A7} (hx : X.hs[i]? = some x) (hk : x.c.batch = k) (hy : Bo t w B y) (hc : y.c = Cd V.plan k a) (hok : a.Ok V.plan)
  (hyp : (∀ b, Blk y.p.1 b → Blk x.p.1 b ∨ w0.heap.size ≤ b) ∧ ∀ b, G8 y b → G8 x b ∨ w0.heap.size ≤ b) (hl : Own w' B t.H Enc.rheld X.l.1 X.l.2.1 X.l.2.2 (X.hs.set i y)) (hu : Upd (Blk X.l.1) w w') : Bj t w0 B X w' (X.setH i y) (V.setA k a) := by
 obtain ⟨hkey, a0, ha0, -⟩ := h.get hx
 rw [hk] at hkey ha0
 have hg' := hg.then_upd hu
 have hne : ¬ Blk X.l.1 X.q := h.row.own_ne h.list hD.WH
 have hxm := List.mem_of_getElem? hx
 refine h.next hD hg' (fun b hb => .inr (.inl hb)) rfl rfl rfl (h.row.upd hg' hne) hl ?_ (fun z hz => ?_) (h.apart.set hx fun j z hj hz b h1 h2 => ?_) (Ac.setA_nd h.nd k a) (h.ok.setA (h.ok.keys _ (Cm ha0)) hok) (fun b hb => ?_)
 ·rw [Ac.rows_old h.nd hkey, ← h.rows]
  show (X.hs.set i y).map (·.c) = _
  rw [List.map_set, hc]
 ·rcases Ls hz with rfl | ⟨j, -, hj⟩
  ·exact hy.upd hu fun b hb hb2 => by
    rcases hyp.2 b hb with h3 | h3
    ·exact (h.each x hxm).offH hD h.list b h3 hb2
    ·have := (h.list.blk hb2).2; omega
  ·exact (h.each z (List.mem_of_getElem? hj)).upd hg' fun b hb hb2 => (h.each z (List.mem_of_getElem? hj)).offH hD h.list b hb hb2
 ·rcases hyp.1 b h1 with h3 | h3
  ·exact h.apart i j x z (fun e => hj e.symm) hx hz b h3 h2
  ·have := ((h.each z (List.mem_of_getElem? hz)).app.blk h2).2; omega
 ·rcases hb with hb | ⟨z, hz, hb⟩
  ·exact .inl (.inr (.inr (.inl hb)))
  ·rcases Ls hz with rfl | ⟨j, -, hj⟩
   ·exact (hyp.2 b hb).imp (fun h3 => .inr (.inr (.inr ⟨x, hxm, h3⟩))) id
   ·exact .inl (.inr (.inr (.inr ⟨z, List.mem_of_getElem? hj, hb⟩)))
theorem Bh.mark {w : World} {B : Nat} {X : An} {V : Ac} (h : Bh t w B X V) (hD : t.Ok) {i : Nat} {k : Int} {a : AttV} {x : A7} (hx : X.hs[i]? = some x) (hk : x.c.batch = k) (ha : getM V.held k = some a) :
  ∃ g, X.l.1 = some ⟨g, 0, none⟩ ∧ Af w ⟨g, i * 6 + 4, none⟩ 0 [.bool true] ∧ Bj t w B X (setCells w ⟨g, i * 6 + 4, none⟩ 0 [.bool true]) (X.setH i { x with c := { x.c with begun := true } }) (V.setA k { a with begun := true }) := by
 obtain ⟨hkey, a0, ha0, hc⟩ := h.get hx
 rw [hk] at ha0 hc
 rw [ha] at ha0; cases ha0
 obtain ⟨g, hgl, hr, ho, hu⟩ := h.list.set1 (i := i) (j := 4) (x' := { x with c := { x.c with begun := true } }) (v := .bool true) hx (by decide) rfl
 have hk' := h.ok.atts _ (Cm ha)
 refine ⟨g, hgl, hr, h.lay hD (Grew.refl w) hx hk (y := { x with c := { x.c with begun := true } }) ?_ ?_ ⟨hk'.ends, hk'.num, hk'.pairs, hk'.app⟩ ⟨fun b hb => .inl hb, fun b hb => .inl hb⟩ ho (hu.mono fun b _ hb => ⟨_, hgl, hb.symm⟩)⟩
 ·have := h.each x (List.mem_of_getElem? hx)
  exact ⟨this.ends, this.dl, this.deal, this.app⟩
 ·rw [hc]; rfl
theorem Bh.tick {w : World} {B : Nat} {X : An} {V : Ac} (h : Bh t w B X V) (hD : t.Ok) {i : Nat} {k : Int} {a : AttV} {x : A7} {j : Nat} (hj : j < V.plan.stores.toNat) (hx : X.hs[i]? = some x) (hk : x.c.batch = k) (ha : getM V.held k = some a)
  (hok : ({ a with applied := addN a.applied (1 + V.plan.workers + (j : Int)) } : AttV).Ok V.plan) :
  ∃ d, x.p.1 = some d ∧ Af w (d.add (j * 1)) 0 [.bool true] ∧ Bj t w B X (setCells w (d.add (j * 1)) 0 [.bool true]) (X.setH i { x with c := { x.c with applied := x.c.applied.set j true } }) (V.setA k { a with applied := addN a.applied (1 + V.plan.workers + (j : Int)) }) := by
 obtain ⟨hkey, a0, ha0, hc⟩ := h.get hx
 rw [hk] at ha0 hc hkey
 rw [ha] at ha0; cases ha0
 have hxm := List.mem_of_getElem? hx
 have hH := h.each x hxm
 have hjl : j < x.c.applied.length := by rw [hc]; show j < (appB V.plan a.applied).length; rw [Ji]; exact hj
 obtain ⟨d, hd, hr, ho, hu⟩ := hH.app.set hjl true
 refine ⟨d, hd, hr, ?_⟩
 have hap : ∀ z ∈ X.hs, ∀ n, X.hs[n]? = some z → n ≠ i → ∀ b, G8 z b → ¬ Blk x.p.1 b := fun z hz n hn hne => (h.each z hz).offP hD hH.app fun b h1 h2 => h.apart n i z x hne hn hx b h1 h2
 have hlp : ∀ b, Blk X.l.1 b → ¬ Blk x.p.1 b := own_ne h.list hH.app hD.HB
 refine h.next hD hu (fun b hb => .inr (.inr ⟨x, hxm, hb⟩)) rfl rfl rfl (h.row.upd hu (h.row.own_ne hH.app hD.WB)) ?_ ?_ (fun z hz => ?_) (h.apart.set hx fun n z hn hz b h1 h2 => h.apart i n x z (fun e => hn e.symm) hx hz b h1 h2) (Ac.setA_nd h.nd k _) (h.ok.setA (h.ok.keys _ (Cm ha)) hok) (fun b hb => ?_)
 ·exact (h.list.upd hu hlp).recode hx rfl
 ·rw [Ac.rows_old h.nd hkey, ← h.rows]
  show (X.hs.set i _).map (·.c) = _
  rw [List.map_set]
  congr 1
  show ({ x.c with applied := x.c.applied.set j true } : G7) = _
  rw [hc]
  show _ = (⟨k, a.number, a.ends, a.pairs, a.begun, appB V.plan (addN a.applied (1 + V.plan.workers + (j : Int)))⟩ : G7)
  rw [T8 hj]; rfl
 ·rcases Ls hz with rfl | ⟨n, hn, hz'⟩
  ·refine ⟨hH.ends.upd hu fun b hb hb2 => own_ne hH.app hH.ends hD.BI b hb2 hb, hH.dl.upd hu fun b hb hb2 => own_ne hH.app hH.dl hD.BS b hb2 hb, hH.deal.upd hu fun b hb hb2 => hH.deal.own_ne hH.app (fun e => hD.BP e.symm) b hb hb2, ho⟩
  ·exact (h.each z (List.mem_of_getElem? hz')).upd hu (hap z (List.mem_of_getElem? hz') n hz' hn)
 ·rcases hb with hb | ⟨z, hz, hb⟩
  ·exact .inl (.inr (.inr (.inl hb)))
  ·rcases Ls hz with rfl | ⟨n, hn, hz'⟩
   ·exact .inl (.inr (.inr (.inr ⟨x, hxm, hb⟩)))
   ·exact .inl (.inr (.inr (.inr ⟨z, List.mem_of_getElem? hz', hb⟩)))
end
end Go.Sx
