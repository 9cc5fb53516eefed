/- What a row of records makes of a source. Conditions: none. -/
import Derived.Test.YtcpkneemhfnanaaGreatSxSr
import Derived.Test.YtcpkneemhfnanaaGreatSxP
import Derived.Test.YtcpkneemhfnanaaGreatSxX
namespace Go.Sx
set_option linter.unusedSimpArgs false
set_option linter.unusedVariables false
def Enc.boolE : Enc Bool := ⟨1, fun b => [.bool b], fun _ => rfl, by decide, fun x v h => by simp at h; subst h; rfl⟩
structure Aed where
 p : Int
 r : RecV
def Aed.Fits (x : Aed) : Prop := (-9223372036854775808 ≤ x.p ∧ x.p < 9223372036854775808) ∧ x.r.Fits
def SrcV.KeysOk (v : SrcV) : Prop := ∀ k, k ∈ v.keys ↔ ∃ q ∈ v.parts, ∃ r ∈ q.1, A8 v.list r = (k, true)
theorem U6 (n : Nat) (l : List OpV) : (Dz n l).KeysOk := by
 intro k
 constructor
 ·intro h; simp [Dz] at h
 ·rintro ⟨q, hq, r, hr, -⟩
  have := List.eq_of_mem_replicate hq
  subst this; simp at hr
theorem Dp {α : Type} {l : List α} {i : Nat} {x y : α} {z : α} (hi : l[i]? = some z) : (∃ q ∈ l.set i x, q = y) ↔ y = x ∨ ∃ j, j ≠ i ∧ l[j]? = some y := by
 constructor
 ·rintro ⟨q, hq, rfl⟩
  obtain ⟨j, hj⟩ := List.getElem?_of_mem hq
  rw [List.getElem?_set] at hj
  by_cases h : i = j
  ·rw [if_pos h] at hj
   split at hj
   ·cases hj; exact .inl rfl
   ·cases hj
  ·rw [if_neg h] at hj; exact .inr ⟨j, fun e => h e.symm, hj⟩
 ·have hlt := (List.getElem?_eq_some_iff.1 hi).1
  rintro (rfl | ⟨j, hj, h⟩)
  ·exact ⟨y, List.mem_of_getElem? (i := i) (by rw [List.getElem?_set, if_pos rfl, if_pos hlt]), rfl⟩
  ·exact ⟨y, List.mem_of_getElem? (i := j) (by rw [List.getElem?_set, if_neg (fun e => hj e.symm)]; exact h), rfl⟩
theorem Xy {v : SrcV} {p : Int} {q : List RecV × Bool} (hq : v.getP p = some q) (r : RecV) (P : RecV → Prop) : (∃ q' ∈ (v.setP p (q.1 ++ [r], q.2)).parts, ∃ x ∈ q'.1, P x) ↔ P r ∨ ∃ q' ∈ v.parts, ∃ x ∈ q'.1, P x := by
 obtain ⟨h0, h1, h2⟩ := A4 hq
 constructor
 ·rintro ⟨q', hq', x, hx, hP⟩
  have := (Dp (x := (q.1 ++ [r], q.2)) (y := q') h2).1 ⟨q', hq', rfl⟩
  rcases this with rfl | ⟨j, -, hj⟩
  ·rcases List.mem_append.1 hx with hx | hx
   ·exact .inr ⟨q, List.mem_of_getElem? h2, x, hx, hP⟩
   ·simp at hx; subst hx; exact .inl hP
  ·exact .inr ⟨q', List.mem_of_getElem? hj, x, hx, hP⟩
 ·have self : ∃ q' ∈ (v.setP p (q.1 ++ [r], q.2)).parts, q' = (q.1 ++ [r], q.2) := (Dp h2).2 (.inl rfl)
  rintro (hP | ⟨q', hq', x, hx, hP⟩)
  ·obtain ⟨q', hq', rfl⟩ := self
   exact ⟨_, hq', r, by simp, hP⟩
  ·obtain ⟨j, hj⟩ := List.getElem?_of_mem hq'
   by_cases e : j = p.toNat
   ·subst e
    rw [h2] at hj; cases hj
    obtain ⟨q'', hq'', rfl⟩ := self
    exact ⟨_, hq'', x, by simp [hx], hP⟩
   ·obtain ⟨q'', hq'', e2⟩ := (Dp (x := (q.1 ++ [r], q.2)) (y := q') h2).2 (.inr ⟨j, e, hj⟩)
    subst e2
    exact ⟨_, hq'', x, hx, hP⟩
theorem Ox {v : SrcV} {p : Int} {r : RecV} (h : v.KeysOk) : (v.produce p r).1.KeysOk := by
 unfold SrcV.produce
 split
 ·exact h
 ·rename_i q hq
  split
  ·exact h
  ·have hr := fun k => Xy hq r (fun x => A8 v.list x = (k, true))
   split
   ·rename_i hk
    have hkr : A8 v.list r = ((A8 v.list r).1, true) := by rw [← hk]
    split
    ·rename_i hin
     intro k
     show k ∈ v.keys ↔ ∃ q' ∈ (v.setP p (q.1 ++ [r], q.2)).parts, ∃ x ∈ q'.1, A8 v.list x = (k, true)
     rw [hr k, h k]
     constructor
     ·exact .inr
     ·rintro (e | e)
      ·rw [← h k]; rw [e] at hin; exact hin
      ·exact e
    ·split
     ·exact h
     ·intro k
      show k ∈ v.keys ++ [(A8 v.list r).1] ↔ ∃ q' ∈ (v.setP p (q.1 ++ [r], q.2)).parts, ∃ x ∈ q'.1, A8 v.list x = (k, true)
      rw [hr k, List.mem_append, h k, List.mem_singleton]
      constructor
      ·rintro (e | e)
       ·exact .inr e
       ·subst e; exact .inl hkr
      ·rintro (e | e)
       ·right; rw [e]
       ·exact .inl e
   ·rename_i hk
    intro k
    show k ∈ v.keys ↔ ∃ q' ∈ (v.setP p (q.1 ++ [r], q.2)).parts, ∃ x ∈ q'.1, A8 v.list x = (k, true)
    rw [hr k, h k]
    constructor
    ·exact .inr
    ·rintro (e | e)
     ·rw [e] at hk; simp at hk
     ·exact e
theorem Aas {l : List OpV} {n : Nat} (hl : ∀ o ∈ l, o.Fits) (hc : Aw l = true) (h1 : 1 ≤ n) (h4 : n ≤ 4) : (Dz n l).Fits :=
 ⟨hl, hc, by simp [Dz]; omega, fun q hq => by
  have := List.eq_of_mem_replicate hq
  subst this; simp, by simp [Dz]⟩
theorem Dw {l : List Int} (h : l.Nodup) : (B3 l).Pairwise (· < ·) := by
 have h1 := H2 l
 have h2 : (B3 l).Nodup := (Bf l).nodup_iff.2 h
 have h3 := List.Pairwise.and h1 h2
 exact h3.imp fun ⟨ha, hb⟩ => by omega
theorem Dx {l : List Int} {k : Int} : k ∈ B3 l ↔ k ∈ l := (Bf l).mem_iff
theorem E5 : ∀ {l r : List Int}, l.Pairwise (· < ·) → r.Pairwise (· < ·) → (∀ x, x ∈ l ↔ x ∈ r) → l = r
 | [], [], _, _, _ => rfl
 | [], y :: r, _, _, h => absurd ((h y).2 (by simp)) (by simp)
 | x :: l, [], _, _, h => absurd ((h x).1 (by simp)) (by simp)
 | x :: l, y :: r, hl, hr, h => by
  rw [List.pairwise_cons] at hl hr
  have hxy : x = y := by
   have h1 := (h x).1 (by simp)
   have h2 := (h y).2 (by simp)
   rcases List.mem_cons.1 h1 with e | h1
   ·exact e
   ·rcases List.mem_cons.1 h2 with e | h2
    ·exact e.symm
    ·have := hl.1 y h2; have := hr.1 x h1; omega
  subst hxy
  congr 1
  refine E5 hl.2 hr.2 fun z => ⟨fun hz => ?_, fun hz => ?_⟩
  ·rcases List.mem_cons.1 ((h z).1 (by simp [hz])) with e | h'
   ·subst e; exact absurd (hl.1 z hz) (by omega)
   ·exact h'
  ·rcases List.mem_cons.1 ((h z).2 (by simp [hz])) with e | h'
   ·subst e; exact absurd (hr.1 z hz) (by omega)
   ·exact h'
theorem Gg {l : List Int} {k : Int} {j : Nat} (hl : l.Pairwise (· < ·)) (hj : j ≤ l.length) (h1 : ∀ x ∈ l.take j, x < k) (h2 : ∀ x, l[j]? = some x → k < x) :
  (l.take j ++ k :: l.drop j).Pairwise (· < ·) ∧ (∀ x, x ∈ l.take j ++ k :: l.drop j ↔ x = k ∨ x ∈ l) ∧ k ∉ l := by
 have hd : ∀ x ∈ l.drop j, k < x := by
  intro x hx
  obtain ⟨i, hi⟩ := List.getElem?_of_mem hx
  rw [List.getElem?_drop] at hi
  cases i with
  | zero => exact h2 x (by simpa using hi)
  | succ i =>
   have hlt := (List.getElem?_eq_some_iff.1 hi).1
   have hj' : l[j]? = some (l[j]'(by omega)) := List.getElem?_eq_getElem (by omega)
   have h3 := h2 _ hj'
   have h4 := (List.pairwise_iff_getElem.1 hl) j (j + (i + 1)) (by omega) hlt (by omega)
   have h5 := (List.getElem?_eq_some_iff.1 hi).2
   rw [h5] at h4; omega
 have hsplit := List.take_append_drop j l
 refine ⟨?_, fun x => ?_, fun hk => ?_⟩
 ·rw [List.pairwise_append]
  refine ⟨hl.sublist (List.take_sublist _ _), ?_, ?_⟩
  ·rw [List.pairwise_cons]
   exact ⟨hd, hl.sublist (List.drop_sublist _ _)⟩
  ·intro a ha b hb
   have ha' := h1 a ha
   rcases List.mem_cons.1 hb with rfl | hb
   ·exact ha'
   ·have := hd b hb; omega
 ·rw [List.mem_append, List.mem_cons]
  have : x ∈ l ↔ x ∈ l.take j ∨ x ∈ l.drop j := by rw [← List.mem_append, hsplit]
  rw [this]
  constructor
  ·rintro (h | h | h)
   ·exact .inr (.inl h)
   ·exact .inl h
   ·exact .inr (.inr h)
  ·rintro (h | h | h)
   ·exact .inr (.inl h)
   ·exact .inl h
   ·exact .inr (.inr h)
 ·rw [← hsplit, List.mem_append] at hk
  rcases hk with hk | hk
  ·have := h1 k hk; omega
  ·have := hd k hk; omega
structure Ch where
 q : Nat
 lb : Nat
 ob : Nat
 lc : Nat
 oc : Nat
 la : Option Addr × Nat × Nat
 hs : List (Option Addr × Nat × Nat)
def Ch.Foot (x : Ch) (b : Nat) : Prop := b = x.q ∨ b = x.lb ∨ b = x.ob ∨ Blk x.la.1 b ∨ ∃ s ∈ x.hs, Blk s.1 b
structure Dd (tS tL tB tR tO : TypeId) (w : World) (B : Nat) (x : Ch) (v : SrcV) : Prop where
 row : Row w x.q tS [.slice (some ⟨x.lb, 0, none⟩) x.hs.length x.lc, .slice (some ⟨x.ob, 0, none⟩) x.hs.length x.oc, .slice x.la.1 x.la.2.1 x.la.2.2]
 heads : Own w B tL Enc.slice (some ⟨x.lb, 0, none⟩) x.hs.length x.lc x.hs
 offs : Own w B tB Enc.boolE (some ⟨x.ob, 0, none⟩) x.hs.length x.oc (v.parts.map (·.2))
 len : x.hs.length = v.parts.length
 logs : ∀ (i : Nat) s, x.hs[i]? = some s → ∃ q, v.parts[i]? = some q ∧ Own w B tR Enc.rcd s.1 s.2.1 s.2.2 q.1
 apart : ∀ (i j : Nat) s t, i ≠ j → x.hs[i]? = some s → x.hs[j]? = some t → ∀ b, Blk s.1 b → ¬ Blk t.1 b
 list : Own w B tO Enc.op3 x.la.1 x.la.2.1 x.la.2.2 v.list
 qB : B ≤ x.q
 fits : v.Fits
 keys : v.KeysOk
def Wm (tS tL tB tR tO : TypeId) : Prop := tS ≠ tL ∧ tS ≠ tB ∧ tS ≠ tR ∧ tS ≠ tO ∧ tL ≠ tB ∧ tL ≠ tR ∧ tL ≠ tO ∧ tB ≠ tR ∧ tB ≠ tO ∧ tR ≠ tO
section
variable {tS tL tB tR tO : TypeId}
theorem Dd.foot {w : World} {B : Nat} {x : Ch} {v : SrcV} (h : Dd tS tL tB tR tO w B x v) {b : Nat} (hb : x.Foot b) : B ≤ b ∧ b < w.heap.size := by
 rcases hb with rfl | rfl | rfl | hb | ⟨s, hs, hb⟩
 ·exact ⟨h.qB, h.row.lt⟩
 ·exact h.heads.blk (b := x.lb) ⟨_, rfl, rfl⟩
 ·exact h.offs.blk (b := x.ob) ⟨_, rfl, rfl⟩
 ·exact h.list.blk hb
 ·obtain ⟨i, hi⟩ := List.getElem?_of_mem hs
  obtain ⟨q, -, ho⟩ := h.logs i s hi
  exact ho.blk hb
theorem Dd.upd {S : Nat → Prop} {w w' : World} {B : Nat} {x : Ch} {v : SrcV} (h : Dd tS tL tB tR tO w B x v) (hu : Upd S w w') (hn : ∀ b, x.Foot b → ¬ S b) : Dd tS tL tB tR tO w' B x v :=
 ⟨h.row.upd hu (hn _ (.inl rfl)), h.heads.upd hu (fun b hb => hn b (by obtain ⟨d, hd, rfl⟩ := hb; cases hd; exact .inr (.inl rfl))), h.offs.upd hu (fun b hb => hn b (by obtain ⟨d, hd, rfl⟩ := hb; cases hd; exact .inr (.inr (.inl rfl)))), h.len, fun i s hs => by
  obtain ⟨q, h1, h3⟩ := h.logs i s hs
  exact ⟨q, h1, h3.upd hu fun b hb => hn b (.inr (.inr (.inr (.inr ⟨s, List.mem_of_getElem? hs, hb⟩))))⟩, h.apart, h.list.upd hu fun b hb => hn b (.inr (.inr (.inr (.inl hb)))), h.qB, h.fits, h.keys⟩
theorem Dd.grew {w w' : World} {B : Nat} {x : Ch} {v : SrcV} (h : Dd tS tL tB tR tO w B x v) (hg : Grew w w') : Dd tS tL tB tR tO w' B x v := h.upd (hg.upd (S := fun _ => False)) fun _ _ h => h
structure Cp (tS tL tB tR tO : TypeId) (w : World) (B : Nat) (x : Ch) (w' : World) (v' : SrcV) : Prop where
 out : ∃ x', Dd tS tL tB tR tO w' B x' v' ∧ x'.q = x.q ∧ Upd x.Foot w w' ∧ ∀ b, x'.Foot b → x.Foot b ∨ w.heap.size ≤ b
theorem Cp.grew {w w' : World} {B : Nat} {x : Ch} {v : SrcV} (h : Dd tS tL tB tR tO w B x v) (hg : Grew w w') : Cp tS tL tB tR tO w B x w' v := ⟨⟨x, h.grew hg, rfl, hg.upd, fun _ hb => .inl hb⟩⟩
theorem Cp.after {w0 w w' : World} {B : Nat} {x : Ch} {v' : SrcV} (h : Cp tS tL tB tR tO w B x w' v') (hg : Grew w0 w) : Cp tS tL tB tR tO w0 B x w' v' := by
 obtain ⟨x', h1, h2, h3, h4⟩ := h.out
 exact ⟨⟨x', h1, h2, hg.then_upd h3, fun b hb => (h4 b hb).imp id (Nat.le_trans hg.size)⟩⟩
theorem Dd.part {w : World} {B : Nat} {x : Ch} {v : SrcV} (h : Dd tS tL tB tR tO w B x v) {p : Int} {q : List RecV × Bool} (hq : v.getP p = some q) :
  ∃ s, x.hs[p.toNat]? = some s ∧ Own w B tR Enc.rcd s.1 s.2.1 s.2.2 q.1 ∧ w.cell? ⟨x.lb, p.toNat, none⟩ = some (.slice s.1 s.2.1 s.2.2) ∧ w.cell? ⟨x.ob, p.toNat, none⟩ = some (.bool q.2) ∧ p < x.hs.length := by
 obtain ⟨h0, h1, h2⟩ := A4 hq
 have hlt : p.toNat < x.hs.length := by rw [h.len]; omega
 obtain ⟨s, hs⟩ : ∃ s, x.hs[p.toNat]? = some s := ⟨_, List.getElem?_eq_getElem hlt⟩
 obtain ⟨q', h3, h5⟩ := h.logs _ s hs
 rw [h2] at h3; cases h3
 obtain ⟨d, s', hd, hs', hc⟩ := h.heads.reads.at0 hlt
 rw [hs] at hs'; cases hs'
 cases hd
 obtain ⟨d2, b', hd2, hb', hc2⟩ := h.offs.reads.at0 hlt
 rw [List.getElem?_map, h2] at hb'
 cases hb'
 cases hd2
 refine ⟨s, hs, h5, ?_, ?_, by omega⟩
 ·have := Ai hc 0 _ rfl
  simpa [Au, Enc.slice] using this
 ·have := Ai hc2 0 _ rfl
  simpa [Au, Enc.boolE] using this
theorem Dd.setLog {w w1 : World} {B : Nat} {x : Ch} {v v' : SrcV} (h : Dd tS tL tB tR tO w B x v) (hD : Wm tS tL tB tR tO) {p : Int} {q : List RecV × Bool} (hq : v.getP p = some q) {s : Option Addr × Nat × Nat} (hs : x.hs[p.toNat]? = some s)
  {a' : Option Addr} {n' c' : Nat} {log' : List RecV} (ho : Own w1 B tR Enc.rcd a' n' c' log') (hu : Upd (Blk s.1) w w1) (hb : ∀ b, Blk a' b → Blk s.1 b ∨ w.heap.size ≤ b)
  (hv1 : v'.parts = v.parts.set p.toNat (log', q.2)) (hv2 : v'.list = v.list) (hf : v'.Fits) (hk : v'.KeysOk) :
  Af w1 ⟨x.lb, p.toNat, none⟩ 0 [.slice a' n' c'] ∧ ∀ w2, w2 = setCells w1 ⟨x.lb, p.toNat, none⟩ 0 [.slice a' n' c'] → Cp tS tL tB tR tO w B x w2 v' := by
 obtain ⟨d1, d2, d3, d4, d5, d6, d7, d8, d9, d10⟩ := hD
 obtain ⟨q0, hq0, ho0⟩ := h.logs _ s hs
 obtain ⟨hp0, hp1, hpq⟩ := A4 hq
 have hsm := List.mem_of_getElem? hs
 have hlb : ∀ b, Blk (some (⟨x.lb, 0, none⟩ : Addr)) b → ¬ Blk s.1 b := own_ne h.heads ho0 d6
 have hob : ∀ b, Blk (some (⟨x.ob, 0, none⟩ : Addr)) b → ¬ Blk s.1 b := own_ne h.offs ho0 d8
 have hP1 := h.heads.upd hu hlb
 obtain ⟨g, hg, hR, hO, hU⟩ := hP1.set1 (x' := (a', n', c')) (v := .slice a' n' c') (j := 0) hs (by decide) (by simp [Enc.slice])
 cases hg
 have e : p.toNat * Enc.slice.sz + 0 = p.toNat := by simp [Enc.slice]
 rw [e] at hR hO hU
 refine ⟨hR, ?_⟩
 rintro w2 rfl
 have hU2 : Upd (fun b => Blk s.1 b ∨ b = x.lb) w (setCells w1 ⟨x.lb, p.toNat, none⟩ 0 [.slice a' n' c']) := (hu.mono fun b _ hb => .inl hb).trans (hU.mono fun b _ hb => .inr hb)
 have hil : p.toNat < x.hs.length := (List.getElem?_eq_some_iff.1 hs).1
 have hfoot : ∀ b, (Blk s.1 b ∨ b = x.lb) → x.Foot b := fun b hb => hb.elim (fun h => .inr (.inr (.inr (.inr ⟨s, hsm, h⟩)))) (fun h => .inr (.inl h))
 have hnb : ∀ {b : Nat}, b < w.heap.size → ¬ Blk s.1 b → ¬ Blk a' b := fun hlt hn hb' => (hb _ hb').elim hn (fun h => by omega)
 have hrow : ¬ (Blk s.1 x.q ∨ x.q = x.lb) := fun hh => hh.elim (h.row.own_ne ho0 d3) (fun e => h.row.own_ne h.heads d1 ⟨_, rfl, e.symm⟩)
 have hoff : ∀ b, Blk (some (⟨x.ob, 0, none⟩ : Addr)) b → ¬ (Blk s.1 b ∨ b = x.lb) := fun b hb hh => hh.elim (hob b hb) (fun e => own_ne h.offs h.heads (Ne.symm d5) b hb ⟨_, rfl, e.symm⟩)
 have hlist : ∀ b, Blk x.la.1 b → ¬ (Blk s.1 b ∨ b = x.lb) := fun b hb hh => hh.elim (own_ne h.list ho0 (Ne.symm d10) b hb) (fun e => own_ne h.list h.heads (Ne.symm d7) b hb ⟨_, rfl, e.symm⟩)
 have hset : ∀ (i : Nat) t, (x.hs.set p.toNat (a', n', c'))[i]? = some t → (i = p.toNat ∧ t = (a', n', c')) ∨ (i ≠ p.toNat ∧ x.hs[i]? = some t) := by
  intro i t ht
  rw [List.getElem?_set] at ht
  by_cases hi : p.toNat = i
  ·rw [if_pos hi, if_pos (by omega)] at ht
   cases ht; exact .inl ⟨hi.symm, rfl⟩
  ·rw [if_neg hi] at ht; exact .inr ⟨fun e => hi e.symm, ht⟩
 have hmap : v'.parts.map (·.2) = v.parts.map (·.2) := by
  rw [hv1]
  apply List.ext_getElem?
  intro i
  rw [List.getElem?_map, List.getElem?_map, List.getElem?_set]
  by_cases hi : p.toNat = i
  ·subst hi; rw [if_pos rfl, hpq, if_pos (by omega)]; rfl
  ·rw [if_neg hi]
 refine ⟨⟨{ x with hs := x.hs.set p.toNat (a', n', c') }, ⟨?_, ?_, ?_, by simp [hv1, h.len], fun i t ht => ?_, fun i k t u hik ht hu' b hbt hbu => ?_, ?_, h.qB, hf, hk⟩, rfl, hU2.mono fun b _ hb => hfoot b hb, fun b hb' => ?_⟩⟩
 ·have := h.row.upd hU2 hrow
  show Row _ x.q tS [.slice (some ⟨x.lb, 0, none⟩) (x.hs.set p.toNat (a', n', c')).length x.lc, .slice (some ⟨x.ob, 0, none⟩) (x.hs.set p.toNat (a', n', c')).length x.oc, .slice x.la.1 x.la.2.1 x.la.2.2]
  rw [List.length_set]; exact this
 ·show Own _ B tL Enc.slice (some ⟨x.lb, 0, none⟩) (x.hs.set p.toNat (a', n', c')).length x.lc (x.hs.set p.toNat (a', n', c'))
  rw [List.length_set]; exact hO
 ·show Own _ B tB Enc.boolE (some ⟨x.ob, 0, none⟩) (x.hs.set p.toNat (a', n', c')).length x.oc (v'.parts.map (·.2))
  rw [List.length_set, hmap]; exact h.offs.upd hU2 hoff
 ·rcases hset i t ht with ⟨rfl, rfl⟩ | ⟨hi, ht⟩
  ·refine ⟨(log', q.2), ?_, ho.upd hU fun b hb' e => ?_⟩
   ·rw [hv1, List.getElem?_set, if_pos rfl, if_pos (by omega)]
   ·subst e
    have hlt : x.lb < w.heap.size := (h.foot (.inr (.inl rfl))).2
    exact hnb hlt (hlb _ ⟨_, rfl, rfl⟩) hb'
  ·obtain ⟨qi, h1, h3⟩ := h.logs i t ht
   refine ⟨qi, ?_, h3.upd hU2 fun b hb' hh => ?_⟩
   ·rw [hv1, List.getElem?_set, if_neg (fun e => hi e.symm)]; exact h1
   ·rcases hh with hh | rfl
    ·exact h.apart i p.toNat t s hi ht hs b hb' hh
    ·exact own_ne h.heads h3 d6 _ ⟨_, rfl, rfl⟩ hb'
 ·rcases hset i t ht with ⟨rfl, rfl⟩ | ⟨hi, ht⟩
  ·rcases hset k u hu' with ⟨rfl, -⟩ | ⟨hk, hu'⟩
   ·exact hik rfl
   ·obtain ⟨qi, -, h3⟩ := h.logs k u hu'
    rcases hb b hbt with hh | hh
    ·exact h.apart k p.toNat u s hk hu' hs b hbu hh
    ·have := (h3.blk hbu).2; omega
  ·rcases hset k u hu' with ⟨rfl, rfl⟩ | ⟨hk, hu'⟩
   ·obtain ⟨qi, -, h3⟩ := h.logs i t ht
    rcases hb b hbu with hh | hh
    ·exact h.apart i p.toNat t s hi ht hs b hbt hh
    ·have := (h3.blk hbt).2; omega
   ·exact h.apart i k t u hik ht hu' b hbt hbu
 ·show Own _ B tO Enc.op3 x.la.1 x.la.2.1 x.la.2.2 v'.list
  rw [hv2]; exact h.list.upd hU2 hlist
 ·rcases hb' with rfl | rfl | rfl | hb' | ⟨t, ht, hb'⟩
  ·exact .inl (.inl rfl)
  ·exact .inl (.inr (.inl rfl))
  ·exact .inl (.inr (.inr (.inl rfl)))
  ·exact .inl (.inr (.inr (.inr (.inl hb'))))
  ·rcases R5 ht with rfl | ht
   ·exact (hb b hb').imp (fun h => .inr (.inr (.inr (.inr ⟨s, hsm, h⟩)))) id
   ·exact .inl (.inr (.inr (.inr (.inr ⟨t, ht, hb'⟩))))
theorem Dd.setOff {w : World} {B : Nat} {x : Ch} {v : SrcV} (h : Dd tS tL tB tR tO w B x v) (hD : Wm tS tL tB tR tO) {p : Int} {q : List RecV × Bool} (hq : v.getP p = some q) {off : Bool} (hf : (v.setP p (q.1, off)).Fits) (hk : (v.setP p (q.1, off)).KeysOk) :
  Af w ⟨x.ob, p.toNat, none⟩ 0 [.bool off] ∧ ∀ w2, w2 = setCells w ⟨x.ob, p.toNat, none⟩ 0 [.bool off] → Cp tS tL tB tR tO w B x w2 (v.setP p (q.1, off)) := by
 obtain ⟨d1, d2, d3, d4, d5, d6, d7, d8, d9, d10⟩ := hD
 obtain ⟨hp0, hp1, hpq⟩ := A4 hq
 obtain ⟨g, hg, hR, hO, hU⟩ := h.offs.set1 (i := p.toNat) (x := q.2) (x' := off) (v := .bool off) (j := 0) (by rw [List.getElem?_map, hpq]; rfl) (by decide) (by simp [Enc.boolE])
 cases hg
 have e : p.toNat * Enc.boolE.sz + 0 = p.toNat := by simp [Enc.boolE]
 rw [e] at hR hO hU
 refine ⟨hR, ?_⟩
 rintro w2 rfl
 have hmap : (v.setP p (q.1, off)).parts.map (·.2) = (v.parts.map (·.2)).set p.toNat off := by simp [SrcV.setP, List.map_set]
 refine ⟨⟨x, ⟨h.row.upd hU (fun e => h.row.own_ne h.offs d2 ⟨_, rfl, e.symm⟩), h.heads.upd hU (fun b hb e => own_ne h.heads h.offs d5 b hb ⟨_, rfl, e.symm⟩), by rw [hmap]; exact hO, by simp [SrcV.setP, h.len], fun i s hs => ?_, h.apart, h.list.upd hU (fun b hb e => own_ne h.list h.offs (Ne.symm d9) b hb ⟨_, rfl, e.symm⟩), h.qB, hf, hk⟩, rfl, hU.mono fun b _ hb => .inr (.inr (.inl hb)), fun b hb => .inl hb⟩⟩
 obtain ⟨qi, h1, h3⟩ := h.logs i s hs
 have h3' := h3.upd hU fun b hb' e => own_ne h.offs h3 d8 b ⟨_, rfl, e.symm⟩ hb'
 by_cases hi : p.toNat = i
 ·subst hi
  rw [hpq] at h1; cases h1
  exact ⟨(q.1, off), by simp [SrcV.setP, List.getElem?_set]; omega, h3'⟩
 ·exact ⟨qi, by simp only [SrcV.setP]; rw [List.getElem?_set, if_neg hi]; exact h1, h3'⟩
end
theorem Qg {v : SrcV} {p : Int} {q : List RecV × Bool} (hq : v.getP p = some q) (h : v.KeysOk) (off : Bool) : (v.setP p (q.1, off)).KeysOk := by
 obtain ⟨h0, h1, h2⟩ := A4 hq
 intro k
 show k ∈ v.keys ↔ _
 rw [h k]
 constructor
 ·rintro ⟨q', hq', r, hr, he⟩
  obtain ⟨j, hj⟩ := List.getElem?_of_mem hq'
  by_cases e : j = p.toNat
  ·subst e
   rw [h2] at hj; cases hj
   obtain ⟨q'', hq'', e2⟩ := (Dp (x := (q.1, off)) (y := (q.1, off)) h2).2 (.inl rfl)
   subst e2
   exact ⟨_, hq'', r, hr, he⟩
  ·obtain ⟨q'', hq'', e2⟩ := (Dp (x := (q.1, off)) (y := q') h2).2 (.inr ⟨j, e, hj⟩)
   subst e2
   exact ⟨_, hq'', r, hr, he⟩
 ·rintro ⟨q', hq', r, hr, he⟩
  rcases (Dp (x := (q.1, off)) (y := q') h2).1 ⟨q', hq', rfl⟩ with rfl | ⟨j, -, hj⟩
  ·exact ⟨q, List.mem_of_getElem? h2, r, hr, he⟩
  ·exact ⟨q', List.mem_of_getElem? hj, r, hr, he⟩
theorem Qh {v : SrcV} {p : Int} {on : Bool} (h : v.KeysOk) : (v.switch p on).1.KeysOk := by
 unfold SrcV.switch
 split
 ·exact h
 ·rename_i q hq
  exact Qg hq h _
structure ValV where
 has : Bool
 bits : Int
deriving DecidableEq
def val0 : ValV := ⟨false, 0⟩
def ValV.Fits (v : ValV) : Prop := 0 ≤ v.bits ∧ v.bits < u64m
@[reducible] def ValV.v (v : ValV) : Value := .agg #[.bool v.has, .int .u64 v.bits]
def Am.val (x : Am) : ValV := ⟨x.has, x.bits⟩
def Bt (k : Int) (v : ValV) : Am := ⟨k, v.has, v.bits⟩
def Cz (kind : Int) : Bool := decide (1 ≤ kind ∧ kind ≤ 4)
def ofV (kind : Int) (x : Nat) : ValV := if kind = 1 then ⟨true, 1⟩ else if kind = 2 then ⟨true, IntKind.u64.wrap (By x)⟩ else if kind = 3 ∨ kind = 4 then ⟨true, (Al x : Int)⟩ else val0
def fitV (kind : Int) (v : ValV) : ValV := if Cz kind = false ∨ v.has = false then val0 else if kind = 3 ∨ kind = 4 then ofV kind v.bits.toNat else v
def H4 (a b : Nat) : Nat := Al (if ordN a b > 0 then b else a)
def Lk (a b : Nat) : Nat := Al (if ordN a b < 0 then b else a)
def Fu (kind : Int) (a b : ValV) : ValV :=
 if a.has = false then b else if b.has = false then a else if kind = 3 then ofV 3 (H4 a.bits.toNat b.bits.toNat) else if kind = 4 then ofV 4 (Lk a.bits.toNat b.bits.toNat) else ⟨true, IntKind.u64.wrap (a.bits + b.bits)⟩
def Cv (kind : Int) (a b : ValV) : ValV := Fu kind (fitV kind a) (fitV kind b)
theorem Qs (n : Int) : 0 ≤ IntKind.u64.wrap n ∧ IntKind.u64.wrap n < u64m := by rw [IntKind.wrap_u64]; simp only [u64m]; omega
theorem Gh {kind : Int} {x : Nat} (hx : x < 18446744073709551616) : (ofV kind x).Fits := by
 unfold ofV ValV.Fits
 have := B6 hx
 split
 ·exact ⟨by decide, by decide⟩
 split
 ·exact Qs _
 split
 ·simp only [u64m]; omega
 ·exact ⟨by decide, by decide⟩
theorem Bu {v : ValV} (h : v.Fits) : v.bits.toNat < 18446744073709551616 := by
 obtain ⟨h1, h2⟩ := h
 simp only [u64m] at h2; omega
theorem F5 {kind : Int} {v : ValV} (h : v.Fits) : (fitV kind v).Fits := by
 unfold fitV
 split
 ·exact ⟨by decide, by decide⟩
 split
 ·exact Gh (Bu h)
 ·exact h
theorem Mb {a b : Nat} (ha : a < 18446744073709551616) (hb : b < 18446744073709551616) : H4 a b < 18446744073709551616 := by
 unfold H4; split
 ·exact B6 hb
 ·exact B6 ha
theorem Oy {a b : Nat} (ha : a < 18446744073709551616) (hb : b < 18446744073709551616) : Lk a b < 18446744073709551616 := by
 unfold Lk; split
 ·exact B6 hb
 ·exact B6 ha
theorem U7 {kind : Int} {a b : ValV} (ha : a.Fits) (hb : b.Fits) : (Fu kind a b).Fits := by
 unfold Fu
 split
 ·exact hb
 split
 ·exact ha
 split
 ·exact Gh (Mb (Bu ha) (Bu hb))
 split
 ·exact Gh (Oy (Bu ha) (Bu hb))
 ·exact Qs _
theorem Jc {kind : Int} {a b : ValV} (ha : a.Fits) (hb : b.Fits) : (Cv kind a b).Fits := U7 (F5 ha) (F5 hb)
theorem Aat {kind : Int} : fitV kind val0 = val0 := by unfold fitV; rw [if_pos (.inr rfl)]
theorem U8 {kind : Int} {b : ValV} : Cv kind val0 b = fitV kind b := by unfold Cv Fu; rw [Aat, if_pos (show val0.has = false from rfl)]
abbrev Tab : Type := List (Int × ValV)
def putT (kind : Int) (m : Tab) (k : Int) (v : ValV) : Tab := setM m k (Cv kind ((getM m k).getD val0) v)
def Bv (m : Tab) : List Am := (B3 (m.map (·.1))).map fun k => Bt k ((getM m k).getD val0)
theorem Qt : ∀ {l r : List Am}, (l.map (·.key)).Pairwise (· < ·) → (r.map (·.key)).Pairwise (· < ·) → (∀ x, x ∈ l ↔ x ∈ r) → l = r
 | [], [], _, _, _ => rfl
 | [], y :: r, _, _, h => absurd ((h y).2 (by simp)) (by simp)
 | x :: l, [], _, _, h => absurd ((h x).1 (by simp)) (by simp)
 | x :: l, y :: r, hl, hr, h => by
  rw [List.map_cons, List.pairwise_cons] at hl hr
  have kl : ∀ z ∈ l, x.key < z.key := fun z hz => hl.1 _ (List.mem_map_of_mem hz)
  have kr : ∀ z ∈ r, y.key < z.key := fun z hz => hr.1 _ (List.mem_map_of_mem hz)
  have hxy : x = y := by
   rcases List.mem_cons.1 ((h x).1 (by simp)) with e | h1
   ·exact e
   ·rcases List.mem_cons.1 ((h y).2 (by simp)) with e | h2
    ·exact e.symm
    ·have := kl y h2; have := kr x h1; omega
  subst hxy
  congr 1
  refine Qt hl.2 hr.2 fun z => ⟨fun hz => ?_, fun hz => ?_⟩
  ·rcases List.mem_cons.1 ((h z).1 (by simp [hz])) with e | h'
   ·subst e; exact absurd (kl z hz) (by omega)
   ·exact h'
  ·rcases List.mem_cons.1 ((h z).2 (by simp [hz])) with e | h'
   ·subst e; exact absurd (kr z hz) (by omega)
   ·exact h'
structure Same (m : Tab) (t : List Am) : Prop where
 nodup : (m.map (·.1)).Nodup
 rise : (t.map (·.key)).Pairwise (· < ·)
 mem : ∀ k v, Bt k v ∈ t ↔ getM m k = some v
theorem Aau {m : Tab} (hn : (m.map (·.1)).Nodup) {k : Int} {v : ValV} : getM m k = some v ↔ (k, v) ∈ m := by
 unfold getM
 induction m with
 | nil => simp
 | cons y r ih =>
  rw [List.map_cons, List.nodup_cons] at hn
  rw [List.find?_cons, List.mem_cons]
  by_cases h : y.1 = k
  ·subst h
   simp only [beq_self_eq_true]
   constructor
   ·intro h; simp at h; left; rw [← h]
   ·rintro (h | h)
    ·rw [← h]; rfl
    ·exact absurd (List.mem_map_of_mem (f := (·.1)) h) hn.1
  ·rw [show (y.1 == k) = false from by simpa using h]
   simp only
   rw [ih hn.2]
   constructor
   ·exact .inr
   ·rintro (h' | h')
    ·rw [← h'] at h; exact absurd rfl h
    ·exact h'
theorem Te {m : Tab} {k : Int} : (getM m k).isSome = true ↔ k ∈ m.map (·.1) := by
 unfold getM
 rw [Option.isSome_map, List.find?_isSome]
 constructor
 ·rintro ⟨x, hx, he⟩
  simp only [beq_iff_eq] at he
  exact he ▸ List.mem_map_of_mem (f := (·.1)) hx
 ·intro h
  obtain ⟨x, hx, he⟩ := List.mem_map.1 h
  exact ⟨x, hx, by simpa using he⟩
theorem Oz (x : Am) : Bt x.key x.val = x := rfl
theorem U9 {m : Tab} (hn : (m.map (·.1)).Nodup) : Same m (Bv m) := by
 have hk : (Bv m).map (·.key) = B3 (m.map (·.1)) := by
  unfold Bv
  rw [List.map_map]
  have : ((fun x : Am => x.key) ∘ fun k => Bt k ((getM m k).getD val0)) = id := by funext k; rfl
  rw [this, List.map_id]
 refine ⟨hn, by rw [hk]; exact Dw hn, fun k v => ?_⟩
 unfold Bv
 rw [List.mem_map]
 constructor
 ·rintro ⟨k', hk', he⟩
  have e1 : k' = k := congrArg Am.key he
  subst e1
  have hs := Te.2 (Dx.1 hk')
  obtain ⟨v', hv'⟩ := Option.isSome_iff_exists.1 hs
  rw [hv'] at he ⊢
  have h2 : v'.has = v.has := congrArg Am.has he
  have h3 : v'.bits = v.bits := congrArg Am.bits he
  have : v' = v := by cases v'; cases v; simp_all
  rw [this]
 ·intro h
  refine ⟨k, Dx.2 (Te.1 (by rw [h]; rfl)), by rw [h]; rfl⟩
theorem Same.eq {m : Tab} {t : List Am} (h : Same m t) : t = Bv m := by
 have h2 := U9 h.nodup
 refine Qt h.rise h2.rise fun x => ?_
 rw [← Oz x, h.mem, h2.mem]
theorem Tf {m : Tab} (hn : (m.map (·.1)).Nodup) {k k' : Int} {v : ValV} : getM (setM m k v) k' = if k' = k then some v else getM m k' := by
 unfold setM getM
 by_cases h : m.any fun p => p.1 == k
 ·rw [if_pos h]
  clear hn
  induction m with
  | nil => simp at h
  | cons y r ih =>
   rw [List.map_cons, List.find?_cons, List.find?_cons]
   by_cases hy : y.1 = k
   ·subst hy
    simp only [beq_self_eq_true, if_true]
    by_cases hk : k' = y.1
    ·subst hk; simp
    ·have hk2 : ¬ y.1 = k' := fun e => hk e.symm
     rw [show (y.1 == k') = false from by simpa using hk2, if_neg hk]
     simp only
     congr 1
     rw [List.find?_map]
     have : ((fun p : Int × ValV => p.1 == k') ∘ fun p => if (p.1 == y.1) = true then (y.1, v) else p) = fun p => p.1 == k' := by
      funext p
      simp only [Function.comp]
      by_cases hp : p.1 = y.1
      ·rw [if_pos (by simpa using hp)]; simp [hp]
      ·rw [if_neg (by simpa using hp)]
     rw [this]
     cases hf : r.find? (fun p => p.1 == k') with
     | none => rfl
     | some p =>
      have := List.find?_some hf
      simp only [beq_iff_eq] at this
      simp only [Option.map_some]
      rw [if_neg (by simp; rw [this]; exact hk)]
   ·have hr : (r.any fun p => p.1 == k) = true := by
     rw [List.any_cons, show (y.1 == k) = false from by simpa using hy] at h
     simpa using h
    rw [show (y.1 == k) = false from by simpa using hy]
    simp only [Bool.false_eq_true, if_false]
    by_cases hk : y.1 = k'
    ·subst hk
     simp [hy]
    ·rw [show (y.1 == k') = false from by simpa using hk]
     exact ih hr
 ·rw [if_neg h]
  have hno : m.find? (fun p => p.1 == k) = none := by
   rw [List.find?_eq_none]
   intro x hx hh
   exact h (List.any_eq_true.2 ⟨x, hx, hh⟩)
  rw [List.find?_append]
  by_cases hk : k' = k
  ·subst hk; rw [hno, if_pos rfl]; simp
  ·rw [if_neg hk]
   have hk2 : ¬ k = k' := fun e => hk e.symm
   cases hf : m.find? (fun p => p.1 == k') with
   | none => simp [hk2]
   | some p => simp
end Go.Sx
