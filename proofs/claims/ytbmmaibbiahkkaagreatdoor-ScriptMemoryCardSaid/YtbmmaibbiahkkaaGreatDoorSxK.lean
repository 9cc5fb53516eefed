/- A region that draws its order and is read in one. Conditions: none. -/
import Derived.Test.YtbmmaibbiahkkaaGreatDoorSxH
import Derived.OrdersHeld
set_option linter.unusedVariables false
namespace Go.Sx
set_option linter.unusedSimpArgs false
section
variable {P : Program} {H : Dq}
def Co (j : Option Nat) (L : Array Bool) : Bool := match j with | none => false | some j => L.getD j false
section
variable {ops : Array Oper} {Q : Exit → Act → World → Prop}
def Bl (P : Program) (ops : Array Oper) (Q : Exit → Act → World → Prop) (j : Option Nat) (S : World → Prop) : Nat → Array Bool → Act → World → Prop
 | 0, L, a, w => Region.ready .any ops L = [] ∧ Q .normal a w
 | fuel + 1, L, a, w =>
  (Region.ready .any ops L = [] → Q .normal a w) ∧
  ∀ i ∈ Region.ready .any ops L, wpOp P ops Q i (fun a' w' => (Co j (L.setIfInBounds i true) = true ∨ S w') ∧ Bl P ops Q j S fuel (L.setIfInBounds i true) a' w') a w
variable {j : Option Nat} {S : World → Prop}
theorem H4 : ∀ (fuel : Nat) (L : Array Bool) (a : Act) (w : World), Bl P ops Q j S fuel L a w → wpAny P .any ops Q fuel L a w
 | 0, _, _, _, h => h
 | fuel + 1, _, _, _, h => ⟨h.1, fun i hi => wpOp_mono (fun a' w' h' => H4 fuel _ a' w' h'.2) (h.2 i hi)⟩
theorem Db {S₂ : World → Prop} (hS : ∀ w, S₂ w → S w) : ∀ (fuel : Nat) (L : Array Bool) (a : Act) (w : World), Bl P ops Q j S₂ fuel L a w → Bl P ops Q j S fuel L a w
 | 0, _, _, _, h => h
 | fuel + 1, _, _, _, h => ⟨h.1, fun i hi => wpOp_mono (fun a' w' h' => ⟨h'.1.imp id (hS w'), Db hS fuel _ a' w' h'.2⟩) (h.2 i hi)⟩
theorem Fg {L : Array Bool} (i : Nat) (h : Co j L = true) : Co j (L.setIfInBounds i true) = true := by
 cases j with
 | none => exact h
 | some k =>
  simp only [Co] at h ⊢
  by_cases hk : i = k
  ·subst hk
   simp only [Array.getD_eq_getD_getElem?, Array.getElem?_setIfInBounds, if_true] at h ⊢
   split
   ·rfl
   ·rename_i hn
    rw [Array.getElem?_eq_none (by omega)] at h; simp at h
  ·rw [getD_set_ne false hk]; exact h
theorem G8 {j₂ : Option Nat} {S₂ : World → Prop} : ∀ (fuel : Nat) (L : Array Bool) (a : Act) (w : World), Co j L = true → Bl P ops Q j₂ S₂ fuel L a w → Bl P ops Q j S fuel L a w
 | 0, _, _, _, _, h => h
 | fuel + 1, L, _, _, hb, h => ⟨h.1, fun i hi => wpOp_mono (fun a' w' h' => ⟨.inl (Fg i hb), G8 fuel _ a' w' (Fg i hb) h'.2⟩) (h.2 i hi)⟩
theorem Jz {i : Nat} {oi : Oper} {v : Value} (hi : ops[i]? = some oi) (hsel : ∀ (j : Nat) (o : Oper) cs b, ops[j]? = some o → o.op ≠ .select cs b)
  (hQ : ∀ c a w, Q (.panic c) (a.put oi.dst v) w → Q (.panic c) a w) {C : List Nat}
  (hC : ∀ c ∈ C, ∃ oc, ops[c]? = some oc ∧ ∃ e ∈ oc.after, Region.binds .any e = true ∧ (e.on = i ∨ e.on ∈ C)) (hw : ∀ j₀, j = some j₀ → j₀ ∈ C) :
  ∀ (fuel : Nat) (L : Array Bool) (a : Act) (w : World), (∀ c ∈ C, L.getD c true = false) →
   (∀ k ok, ops[k]? = some ok → k ≠ i → L.getD k true = false → (∀ e ∈ ok.after, Region.binds .any e = true → e.on ≠ i) → oi.apart ops ok = true) →
   i ∈ Region.ready .any ops L → YieldsIf P ops S oi v a → S w →
   Bl P ops Q j S fuel (L.setIfInBounds i true) (a.put oi.dst v) w → Bl P ops Q j S (fuel + 1) L a w := by
 intro fuel
 induction fuel with
 | zero =>
  intro L a w _ _ hr hy hS H
  refine ⟨fun h => (by rw [h] at hr; cases hr), fun k hk => ?_⟩
  by_cases hki : k = i
  ·subst hki; exact hy.wpOp hi hS ⟨.inr hS, H⟩
  ·have := ready_mono hk hki
   rw [H.1] at this
   cases this
 | succ fuel ih =>
  intro L a w hL hfree hr hy hS H
  have hi0 : L.getD i true = false := by
   have h0 := (mem_ready.1 hr).1
   exact h0
  have hout : ∀ m ∈ Region.ready .any ops L, m ∉ C := by
   intro m hm hmC
   obtain ⟨_, om, hom, hall⟩ := mem_ready.1 hm
   obtain ⟨oc, hoc, e, he, hb, hon⟩ := hC m hmC
   rw [hom] at hoc; cases hoc
   have h1 := hall e he hb
   have h2 : L.getD e.on true = false := by
    rcases hon with hon | hon
    ·rw [hon]; exact hi0
    ·exact hL _ hon
   rcases Nat.lt_or_ge e.on L.size with h' | h'
   ·simp [h'] at h1 h2; rw [h2] at h1; cases h1
   ·simp [Array.getElem?_eq_none h'] at h2
  refine ⟨fun h => (by rw [h] at hr; cases hr), fun k hk => ?_⟩
  by_cases hki : k = i
  ·subst hki; exact hy.wpOp hi hS ⟨.inr hS, H⟩
  ·have h1 := H.2 k (ready_mono hk hki)
   obtain ⟨hjun, oj, hoj, hall⟩ := mem_ready.1 hk
   have hnot : ∀ e ∈ oj.after, Region.binds .any e = true → e.on ≠ i := fun e he hb heq => by
    have h1 := hall e he hb
    have h0 := (mem_ready.1 hr).1
    rw [heq] at h1
    rcases Nat.lt_or_ge i L.size with h' | h'
    ·simp [h'] at h0 h1; rw [h0] at h1; cases h1
    ·simp [Array.getElem?_eq_none h'] at h1
   have hL' : ∀ c ∈ C, (L.setIfInBounds k true).getD c true = false := fun c hc => by
    have hne : k ≠ c := fun e => hout k hk (e ▸ hc)
    rw [getD_set_ne true hne]; exact hL c hc
   have h2 := wpOp_putIf hoj (hfree k oj hoj hki hjun hnot) (fun cs b => hsel i oi cs b hi) (fun cs b => hsel k oj cs b hoj) hQ hy h1
   have hfree' : ∀ m om, ops[m]? = some om → m ≠ i → (L.setIfInBounds k true).getD m true = false →
     (∀ e ∈ om.after, Region.binds .any e = true → e.on ≠ i) → oi.apart ops om = true := fun m om hm hmi hun hno => by
    refine hfree m om hm hmi ?_ hno
    by_cases hkm : k = m
    ·subst hkm; exact hjun
    ·rw [getD_set_ne true hkm] at hun; exact hun
   have hbar : ∀ w', (Co j ((L.setIfInBounds i true).setIfInBounds k true) = true ∨ S w') → S w' := by
    intro w' hor
    rcases hor with hb | hS
    ·exfalso
     rw [Array.setIfInBounds_comm _ _ (Ne.symm hki)] at hb
     cases hj : j with
     | none => rw [hj] at hb; cases hb
     | some j₀ =>
      have hjC := hw j₀ hj
      have hne : i ≠ j₀ := fun e' => hout i hr (e' ▸ hjC)
      rw [hj] at hb
      simp only [Co] at hb
      rw [getD_set_ne false hne] at hb
      have h3 := hL' j₀ hjC
      rcases Nat.lt_or_ge j₀ (L.setIfInBounds k true).size with h' | h'
      ·rw [Array.getD_eq_getD_getElem?, Array.getElem?_eq_getElem h'] at hb h3
       simp only [Option.getD_some] at hb h3
       rw [hb] at h3; cases h3
      ·rw [Array.getD_eq_getD_getElem?, Array.getElem?_eq_none h'] at hb
       cases hb
    ·exact hS
   refine wpOp_mono (fun a' w' h3 => ⟨.inr (hbar w' h3.2.1), ih (L.setIfInBounds k true) a' w' hL' hfree' (ready_mono hr (Ne.symm hki)) h3.1 (hbar w' h3.2.1) ?_⟩) h2
   rw [Array.setIfInBounds_comm _ _ hki]
   exact h3.2.2
theorem Km {i : Nat} {oi : Oper} {v : Value} (hi : ops[i]? = some oi) (hsel : ∀ (j : Nat) (o : Oper) cs b, ops[j]? = some o → o.op ≠ .select cs b)
  (hQ : ∀ c a w, Q (.panic c) (a.put oi.dst v) w → Q (.panic c) a w) (hji : ∀ j₀, j = some j₀ → j₀ ≠ i) :
  ∀ (fuel : Nat) (L : Array Bool) (a : Act) (w : World),
   (∀ k ok, ops[k]? = some ok → k ≠ i → L.getD k true = false → (∀ e ∈ ok.after, Region.binds .any e = true → e.on ≠ i) → oi.apart ops ok = true) →
   i ∈ Region.ready .any ops L → YieldsIf P ops (fun _ => True) oi v a → (Co j L = true ∨ S w) →
   Bl P ops Q j S fuel (L.setIfInBounds i true) (a.put oi.dst v) w → Bl P ops Q j S (fuel + 1) L a w := by
 intro fuel
 induction fuel with
 | zero =>
  intro L a w _ hr hy hS H
  refine ⟨fun h => (by rw [h] at hr; cases hr), fun k hk => ?_⟩
  by_cases hki : k = i
  ·subst hki; exact hy.wpOp hi trivial ⟨hS.imp (Fg _) id, H⟩
  ·have := ready_mono hk hki
   rw [H.1] at this
   cases this
 | succ fuel ih =>
  intro L a w hfree hr hy hS H
  refine ⟨fun h => (by rw [h] at hr; cases hr), fun k hk => ?_⟩
  by_cases hki : k = i
  ·subst hki; exact hy.wpOp hi trivial ⟨hS.imp (Fg _) id, H⟩
  ·have h1 := H.2 k (ready_mono hk hki)
   obtain ⟨hjun, oj, hoj, hall⟩ := mem_ready.1 hk
   have hnot : ∀ e ∈ oj.after, Region.binds .any e = true → e.on ≠ i := fun e he hb heq => by
    have h1 := hall e he hb
    have h0 := (mem_ready.1 hr).1
    rw [heq] at h1
    rcases Nat.lt_or_ge i L.size with h' | h'
    ·simp [h'] at h0 h1; rw [h0] at h1; cases h1
    ·simp [Array.getElem?_eq_none h'] at h1
   have h2 := wpOp_putIf hoj (hfree k oj hoj hki hjun hnot) (fun cs b => hsel i oi cs b hi) (fun cs b => hsel k oj cs b hoj) hQ hy h1
   have hfree' : ∀ m om, ops[m]? = some om → m ≠ i → (L.setIfInBounds k true).getD m true = false →
     (∀ e ∈ om.after, Region.binds .any e = true → e.on ≠ i) → oi.apart ops om = true := fun m om hm hmi hun hno => by
    refine hfree m om hm hmi ?_ hno
    by_cases hkm : k = m
    ·subst hkm; exact hjun
    ·rw [getD_set_ne true hkm] at hun; exact hun
   have hbar : ∀ w', (Co j ((L.setIfInBounds i true).setIfInBounds k true) = true ∨ S w') → (Co j (L.setIfInBounds k true) = true ∨ S w') := by
    intro w' hor
    refine hor.imp (fun hb => ?_) id
    rw [Array.setIfInBounds_comm _ _ (Ne.symm hki)] at hb
    cases hj : j with
    | none => rw [hj] at hb; cases hb
    | some j₀ =>
     rw [hj] at hb
     simp only [Co] at hb ⊢
     rw [getD_set_ne false (Ne.symm (hji j₀ hj))] at hb
     exact hb
   refine wpOp_mono (fun a' w' h3 => ⟨hbar w' h3.2.1, ih (L.setIfInBounds k true) a' w' hfree' (ready_mono hr (Ne.symm hki)) h3.1 (hbar w' h3.2.1) ?_⟩) h2
   rw [Array.setIfInBounds_comm _ _ hki]
   exact h3.2.2
theorem G9 {i : Nat} {ops : Array Oper} : ∀ (r : List Oper) (c : Nat) (acc : List Nat), (∀ k o, r[k]? = some o → ops[c + k]? = some o) →
  (∀ x ∈ acc, ∃ oc, ops[x]? = some oc ∧ ∃ e ∈ oc.after, Region.binds .any e = true ∧ (e.on = i ∨ e.on ∈ acc)) →
  ∀ x ∈ Hs i c r acc, ∃ oc, ops[x]? = some oc ∧ ∃ e ∈ oc.after, Region.binds .any e = true ∧ (e.on = i ∨ e.on ∈ Hs i c r acc)
 | [], c, acc, _, h => h
 | o :: r, c, acc, hr, h => by
  rw [Hs]
  refine G9 r (c + 1) _ (fun k o' hk => by have := hr (k + 1) o' (by simpa using hk); rwa [show c + 1 + k = c + (k + 1) from by omega]) ?_
  cases hb : o.after.any fun e => Region.binds .any e && (Nat.beq e.on i || Be acc e.on)
  ·exact h
  ·simp only [cond_true]
   intro x hx
   rcases List.mem_cons.1 hx with rfl | hx
   ·obtain ⟨e, he, hbe⟩ := Array.any_eq_true'.1 hb
    simp only [Bool.and_eq_true, Bool.or_eq_true] at hbe
    refine ⟨o, by simpa using hr 0 o rfl, e, he, hbe.1, ?_⟩
    rcases hbe.2 with h1 | h1
    ·exact .inl (C2 h1)
    ·exact .inr (List.mem_cons_of_mem _ (Bq.1 h1))
   ·obtain ⟨oc, h1, e, h2, h3, h4⟩ := h x hx
    exact ⟨oc, h1, e, h2, h3, h4.imp id (List.mem_cons_of_mem _)⟩
theorem H5 {L : Array Bool} : ∀ {C : List Nat}, Jx L C = true → ∀ c ∈ C, L.getD c true = false
 | [], _, c, hc => by cases hc
 | x :: r, h, c, hc => by
  rw [Jx] at h
  cases hx : L.getD x true
  ·rw [hx] at h
   rcases List.mem_cons.1 hc with rfl | hc
   ·exact hx
   ·exact H5 h c hc
  ·rw [hx] at h; cases h
theorem Kn {L : Array Bool} {a : Act} {w : World} (hr : Region.ready .any ops L = []) (h : Q .normal a w) : ∀ fuel, Bl P ops Q j S fuel L a w
 | 0 => ⟨hr, h⟩
 | _ + 1 => ⟨fun _ => h, by rw [hr]; simp⟩
end
theorem Fh : ∀ {a b : List Nat}, Eo a b = true → a = b
 | [], [], _ => rfl
 | x :: r, y :: s, h => by
  simp only [Eo] at h
  cases hb : Nat.beq x y
  ·rw [hb] at h; cases h
  ·rw [hb] at h; rw [C2 hb, Fh h]
 | [], _ :: _, h => by cases h
 | _ :: _, [], h => by cases h
theorem J0 {ops : Array Oper} {j i : Nat} (h : waitsFor ops j i = true) : ∃ oj, ops[j]? = some oj ∧ ∃ e ∈ oj.after, Region.binds .any e = true ∧ e.on = i := by
 unfold waitsFor at h
 split at h
 ·rename_i o ho
  obtain ⟨e, he, hb⟩ := Array.any_eq_true'.1 h
  simp only [Bool.and_eq_true, beq_iff_eq] at hb
  exact ⟨o, ho, e, he, hb.1, hb.2⟩
 ·cases h
theorem J1 {ops : Array Oper} {L : Array Bool} {j : Option Nat} {i : Nat} (h : Ht ops L j i = true) : ∃ C : List Nat,
  (∀ c ∈ C, ∃ oc, ops[c]? = some oc ∧ ∃ e ∈ oc.after, Region.binds .any e = true ∧ (e.on = i ∨ e.on ∈ C)) ∧ (∀ j₀, j = some j₀ → j₀ ∈ C) ∧ ∀ c ∈ C, L.getD c true = false := by
 cases j with
 | none => exact ⟨[], fun c hc => (by cases hc), fun j₀ hj => (by cases hj), fun c hc => (by cases hc)⟩
 | some j =>
  rw [Ht] at h
  cases h1 : (waitsFor ops j i && !L.getD j true)
  ·rw [h1] at h
   simp only [cond_false, Bool.and_eq_true] at h
   refine ⟨Hs i 0 ops.toList [], G9 ops.toList 0 [] (fun k o hk => by simpa using hk) (fun x hx => by cases hx), fun j₀ hj => ?_, H5 h.2⟩
   cases hj; exact Bq.1 h.1
  ·simp only [Bool.and_eq_true, Bool.not_eq_true'] at h1
   obtain ⟨oj, h2, e, h3, h4, h5⟩ := J0 h1.1
   refine ⟨[j], fun c hc => ?_, fun j₀ hj => ?_, fun c hc => ?_⟩
   ·simp only [List.mem_singleton] at hc; subst hc; exact ⟨oj, h2, e, h3, h4, .inl h5⟩
   ·cases hj; simp
   ·simp only [List.mem_singleton] at hc; subst hc; exact h1.2
theorem Gw {w w' : World} : ∀ {T : List Addr}, Bb w w' T → ∀ a ∈ T, w'.heap[a.block]? = w.heap[a.block]?
 | a :: r, h, x, hx => by
  cases hx with
  | head => exact h.1
  | tail _ hx => exact Gw h.2 x hx
theorem Lq {w w₀ w' w₀' : World} (hh : Ae w w₀) (hh' : Ae w' w₀') {b : Nat} (hn : w.heap[b]? ≠ some hole) (h : w'.heap[b]? = w.heap[b]?) : w₀'.heap[b]? = w₀.heap[b]? := by
 rcases hh.block b with e | e
 ·rcases hh'.block b with e' | e'
  ·rw [← e, ← e', h]
  ·rw [h] at e'; exact absurd e' hn
 ·exact absurd e hn
def Snap (T : List Addr) (TL : List Nat) (s : DS) (F : List (Nat × LB)) (ρ : Nat → Nat) (w₀ : World) (w₁ : World) : Prop :=
 (∀ ad ∈ T, w₁.heap[ad.block]? = w₀.heap[ad.block]?) ∧ ∀ id ∈ TL, ∀ lb, getL s F id = some lb → w₁.heap[ρ id]? = w₀.heap[ρ id]?
theorem Snap.refl (T : List Addr) (TL : List Nat) (s : DS) (F : List (Nat × LB)) (ρ : Nat → Nat) (w₀ : World) : Snap T TL s F ρ w₀ w₀ := ⟨fun _ _ => rfl, fun _ _ _ _ => rfl⟩
theorem Cz {α : Type} (l : List Nat) (e : List (Nat × α)) (t : Nat) : get (pick l e) t = if t ∈ l then get e t else none := by
 induction e with
 | nil => simp [pick, get]
 | cons x r ih =>
  obtain ⟨j, v⟩ := x
  simp only [pick]
  cases hb : Be l j
  ·have hj : j ∉ l := fun h => by rw [Bq.2 h] at hb; cases hb
   simp only [cond_false, Av, ih]
   by_cases h : j = t
   ·subst h; simp [hj]
   ·simp [h]
  ·have hj := Bq.1 hb
   simp only [cond_true, ih, Av]
   by_cases h : j = t
   ·subst h; simp [hj]
   ·simp [h]
theorem Lr : ∀ {a b : Option Nat}, Mj a b = true → a = b
 | none, none, _ => rfl
 | some a, some b, h => by rw [C2 h]
 | none, some _, h => by cases h
 | some _, none, h => by cases h
theorem Ls {F : List (Nat × LB)} {o : Oper} {s : DS} {k : EV → DS → World → Prop} {pn : List PanicEntry → World → Prop} {w : World} (hok : Hr P o = true) (h : Al P H F o s k pn w) : ∀ ad ∈ Ch s.env o, w.heap[ad.block]? ≠ some hole := by
 intro ad had
 unfold Ch at had
 split at had
 ·rename_i t x hop
  split at had
  ·rename_i ad' hox
   simp only [List.mem_singleton] at had
   subst had
   simp only [Al, hop] at h
   unfold addrOf at h
   rw [hox] at h
   simp only at h
   intro hh
   split at h
   ·obtain ⟨v, hc, _⟩ := Hi h
    rw [Fb hh] at hc; cases hc
   ·rename_i cs m hb hz hm
    obtain ⟨hg, hk⟩ := Ab h
    have hok' : ∃ n, m = n + 1 := by
     simp only [Hr, hop, hm] at hok
     cases m with
     | zero => cases hok
     | succ n => exact ⟨n, rfl⟩
    obtain ⟨n, rfl⟩ := hok'
    have hl : cs.toList.length = n + 1 := C2 hg
    cases hcs : cs.toList with
    | nil => rw [hcs] at hl; cases hl
    | cons c r =>
     rw [hcs] at hk
     simp only [S1.ofL, ex1L] at hk
     obtain ⟨v, hk⟩ := Hh hk
     obtain ⟨vs, hc, _⟩ := Hn hk
     have := hc.1
     simp only [Addr.add, if_true] at this
     rw [Fb hh] at this; cases this
   ·exact h.elim
  ·cases had
 ·cases had
def Gd (P : Program) (ops : Array Oper) (bars : List Nat) (Q : Exit → Act → World → Prop) (t : Ord) (chk : Bool) (S : World → Prop) (fuel : Nat) (L : Array Bool) (a : Act) (w₀ : World) : Prop :=
 match chk with
 | true => Bl P ops Q (Ao bars t) S fuel L a w₀
 | false => ∀ fuel', fuel = fuel' + 1 → ∀ i ∈ t.heads, wpOp P ops Q i (fun a' w' => (Co (Ao bars t) (L.setIfInBounds i true) = true ∨ S w') ∧ Bl P ops Q (Ao bars t) S fuel' (L.setIfInBounds i true) a' w') a w₀
theorem D7 {n : Nat} {F : List (Nat × LB)} {ops : Array Oper} {bars : List Nat} {K : Exit → DS → World → Prop} {wi wi₀ : World} {a₀ : Act} {s₀ : DS} {ρ₀ : Nat → Nat} {Q : Exit → Act → World → Prop}
  (hsel : Region.noSelect ops = true) (hP : ∀ c a w (o : Oper) v, o ∈ ops.toList → Q (.panic c) (a.put o.dst v) w → Q (.panic c) a w)
  (hPn : ∀ c s' a' w' w₀' ρ', K (.panic c) { s' with env := drop (dsts ops.toList) s'.env } w' → Rel wi wi₀ n F s' a' w' w₀' ρ' → Agree (dsts ops.toList) a₀ a' → Evol (dsts ops.toList) s₀ s' ρ₀ ρ' → Q (.panic c) a' w₀')
  (hQ : ∀ s' a' w' w₀' ρ', K .normal s' w' → Rel wi wi₀ n F s' a' w' w₀' ρ' → Agree (dsts ops.toList) a₀ a' → Evol (dsts ops.toList) s₀ s' ρ₀ ρ' → Q .normal a' w₀') :
  ∀ (order : Ord) (chk : Bool) (L : Array Bool) (T : List Addr) (TL : List Nat) (s : DS) (a : Act) (w w₀ : World) (ρ : Nat → Nat) (fuel : Nat), order.len ≤ fuel → L.size = ops.size → (∀ ad ∈ T, w.heap[ad.block]? ≠ some hole) → A3 P H n ops bars K order chk L T TL F s w → Rel wi wi₀ n F s a w w₀ ρ → Agree (dsts ops.toList) a₀ a → Evol (dsts ops.toList) s₀ s ρ₀ ρ →
   Gd P ops bars Q order chk (Snap T TL s F ρ w₀) fuel L a w₀
 | .nil, chk, L, T, TL, s, a, w, w₀, ρ, fuel, _, _, _, h, hr, ha, hv => by
  obtain ⟨h1, h2⟩ := Ab h
  cases chk
  ·intro fuel' _ i hi; cases hi
  ·exact Kn (Fh h1) (hQ _ _ _ _ _ h2 hr ha hv) fuel
 | .alt x y, chk, L, T, TL, s, a, w, w₀, ρ, fuel, hf, hsz, hTn, h, hr, ha, hv => by
  obtain ⟨h1, h⟩ := Ab h
  obtain ⟨h2, hx, hy⟩ := Ab h
  have hnb := Lr h1
  have gx := D7 hsel hP hPn hQ x false L T TL s a w w₀ ρ fuel (by simp only [Ord.len] at hf; omega) hsz hTn hx hr ha hv
  have gy := D7 hsel hP hPn hQ y false L T TL s a w w₀ ρ fuel (by simp only [Ord.len] at hf; omega) hsz hTn hy hr ha hv
  have both : Gd P ops bars Q (.alt x y) false (Snap T TL s F ρ w₀) fuel L a w₀ := by
   intro fuel' he i hi
   simp only [Ord.heads, List.mem_append] at hi
   show wpOp P ops Q i (fun a' w' => (Co (Ao bars x) (L.setIfInBounds i true) = true ∨ _) ∧ Bl P ops Q (Ao bars x) _ fuel' (L.setIfInBounds i true) a' w') a w₀
   rcases hi with hi | hi
   ·exact gx fuel' he i hi
   ·have := gy fuel' he i hi
    rw [← hnb] at this; exact this
  cases chk
  ·exact both
  ·have hrd : Region.ready .any ops L = Ord.heads (.alt x y) := Fh (by simpa using h2)
   cases fuel with
   | zero =>
    -- an order of no length has no heads
    have hl : (Ord.alt x y).len = 0 := by omega
    have noheads : ∀ t : Ord, t.len = 0 → t.heads = [] := by
     intro t
     induction t with
     | nil => intro _; rfl
     | cons i r _ => intro h; simp [Ord.len] at h
     | alt p q ihp ihq => intro h; simp only [Ord.len] at h; simp only [Ord.heads]; rw [ihp (by omega), ihq (by omega)]; rfl
    have hready : Region.ready .any ops L = [] := by rw [hrd]; exact noheads _ hl
    -- then both orders are at their end: the first tells so
    have fin : ∀ (t : Ord) (L : Array Bool) (T : List Addr) (TL : List Nat) (s : DS) (w : World), t.len = 0 → A3 P H n ops bars K t false L T TL F s w → K .normal s w := by
     intro t
     induction t with
     | nil => intro L T TL s w _ hd; exact (Ab hd).2
     | cons i r _ => intro L T TL s w h; simp [Ord.len] at h
     | alt p q ihp ihq =>
      intro L T TL s w h hd
      simp only [Ord.len] at h
      exact ihp L T TL s w (by omega) (Ab (Ab hd).2).2.1
    exact ⟨hready, hQ _ _ _ _ _ (fin x L T TL s w (by simp only [Ord.len] at hl; omega) hx) hr ha hv⟩
   | succ fuel' =>
    refine ⟨fun h0 => ?_, fun i hi => both fuel' rfl i (by rw [← hrd]; exact hi)⟩
    have noheads : ∀ (t : Ord) (L : Array Bool) (T : List Addr) (TL : List Nat) (s : DS) (w : World), t.heads = [] → A3 P H n ops bars K t false L T TL F s w → K .normal s w := by
     intro t
     induction t with
     | nil => intro L T TL s w _ hd; exact (Ab hd).2
     | cons i r _ => intro L T TL s w h; simp [Ord.heads] at h
     | alt p q ihp ihq =>
      intro L T TL s w h hd
      simp only [Ord.heads, List.append_eq_nil_iff] at h
      exact ihp L T TL s w h.1 (Ab (Ab hd).2).2.1
    rw [hrd] at h0
    simp only [Ord.heads, List.append_eq_nil_iff] at h0
    exact hQ _ _ _ _ _ (noheads x L T TL s w h0.1 hx) hr ha hv
 | .cons i rest, chk, L, T, TL, s, a, w, w₀, ρ, fuel, hf, hsz, hTn, h, hr, ha, hv => by
  obtain ⟨fuel, rfl⟩ : ∃ f, fuel = f + 1 := ⟨fuel - 1, by simp only [Ord.len] at hf; omega⟩
  have hf' : rest.len ≤ fuel := by simp only [Ord.len] at hf; omega
  have ih := D7 (bars := bars) hsel hP hPn hQ rest true
  have hsz' : (L.setIfInBounds i true).size = ops.size := by simp [hsz]
  unfold A3 at h
  split at h
  ·exact h.elim
  ·rename_i o ho
   have hom : o ∈ ops.toList := by
    rw [← Array.getElem?_toList] at ho
    exact List.mem_of_getElem? ho
   have hmem : ∀ d, o.dst = some d → d ∈ dsts ops.toList := fun d hd => Eu hom hd
   have hstep : ∀ v, Agree (dsts ops.toList) a₀ (a.put o.dst v) := fun v => ha.trans (Agree.put _ _ _ hmem)
   -- what is taken first
   have take : ∀ (v : Value) (s'' : DS) (T' : List Addr) (TL' : List Nat), (∀ t ∈ T, t ∈ T') → (∀ t ∈ TL, t ∈ TL') → (∀ ad ∈ T', w.heap[ad.block]? ≠ some hole) → (∀ id, getL s'' F id = getL s F id) → En ops bars rest L i = true →
     (∀ w₁, (Lm o = true → Snap T' TL' s'' F ρ w₀ w₁) → (Region.wanted o (yielded ops a.tmps) = true ∧ (execOp a.eval o).run P w₁ = .ok (.value v) w₁) ∨ (Region.wanted o (yielded ops a.tmps) = false ∧ v = undef)) →
     A3 P H n ops bars K rest true (L.setIfInBounds i true) T' TL' F s'' w → Rel wi wi₀ n F s'' (a.put o.dst v) w w₀ ρ → Evol (dsts ops.toList) s₀ s'' ρ₀ ρ →
     Bl P ops Q (Ao bars (.cons i rest)) (Snap T TL s F ρ w₀) (fuel + 1) L a w₀ := by
    intro v s'' T' TL' hT hTL hTn' hg' hb hyield hd hrs hvs
    simp only [En, Bool.and_eq_true, Bool.not_eq_true'] at hb
    obtain ⟨⟨⟨hb1, hb2⟩, hb3⟩, hb4⟩ := hb
    have hrec := ih (L.setIfInBounds i true) T' TL' s'' (a.put o.dst v) w w₀ ρ fuel hf' hsz' hTn' hd hrs (hstep v) hvs
    have hready : i ∈ Region.ready .any ops L := by simpa using hb3
    have hweak : ∀ w₁, Snap T' TL' s'' F ρ w₀ w₁ → Snap T TL s F ρ w₀ w₁ := fun w₁ hw => ⟨fun ad hd => hw.1 ad (hT ad hd), fun id hid lb hl => hw.2 id (hTL id hid) lb (by rw [hg']; exact hl)⟩
    have hnb : Ao bars (.cons i rest) = Ao bars rest := by simp only [Ao, hb4, cond_false]
    rw [hnb]
    refine Db hweak _ _ _ _ ?_
    cases hnl : (Ln ops i && Lo (Ao bars rest) i)
    case true =>
     simp only [Bool.and_eq_true, Ln, ho, Bool.not_eq_true'] at hnl
     have hyi : YieldsIf P ops (fun _ => True) o v a := by
      rcases hyield w₀ (fun _ => Snap.refl _ _ _ _ _ _) with ⟨h1, -⟩ | ⟨h1, h2⟩
      ·refine .inl ⟨h1, fun w₁ hw => ?_⟩
       rcases hyield w₁ (fun h => by rw [hnl.1] at h; cases h) with ⟨_, h3⟩ | ⟨h3, _⟩
       ·exact h3
       ·rw [h1] at h3; cases h3
      ·exact .inr ⟨h1, h2⟩
     refine Km ho (Region.noSelect_spec hsel) (fun c a w hc => hP _ _ _ o _ hom hc) (fun j₀ hj e => ?_) fuel L a w₀ (Region.free_spec ho hb2) hready hyi (.inr (Snap.refl _ _ _ _ _ _)) hrec
     have h2 := hnl.2
     rw [hj, e] at h2
     simp [Lo] at h2
    rw [hnl] at hb1
    simp only [cond_false] at hb1
    have hyi : YieldsIf P ops (Snap T' TL' s'' F ρ w₀) o v a := by
     rcases hyield w₀ (fun _ => Snap.refl _ _ _ _ _ _) with ⟨h1, -⟩ | ⟨h1, h2⟩
     ·refine .inl ⟨h1, fun w₁ hw => ?_⟩
      rcases hyield w₁ (fun _ => hw) with ⟨_, h3⟩ | ⟨h3, _⟩
      ·exact h3
      ·rw [h1] at h3; cases h3
     ·exact .inr ⟨h1, h2⟩
    obtain ⟨C, hC1, hC2, hC3⟩ := J1 hb1
    exact Jz ho (Region.noSelect_spec hsel) (fun c a w hc => hP _ _ _ o _ hom hc) hC1 hC2 fuel L a w₀ hC3 (Region.free_spec ho hb2) hready hyi (Snap.refl _ _ _ _ _ _) hrec
   have quiet : ∀ s', s'.loc = s.loc → Rel wi wi₀ n F s' a w w₀ ρ → Evol (dsts ops.toList) s₀ s' ρ₀ ρ → Region.wanted o (yielded ops a.tmps) = true → As H o = true → Hr P o = true → En ops bars rest L i = true →
     Al P H F o s' (fun e s'' w' => putE n s'' o.dst e fun s3 => A3 P H n ops bars K rest true (L.setIfInBounds i true) (Ch s'.env o ++ T) (Fc s'.env o ++ TL) F s3 w') (fun _ _ => False) w →
     Bl P ops Q (Ao bars (.cons i rest)) (Snap T TL s F ρ w₀) (fuel + 1) L a w₀ := by
    intro s' hloc hrs hvs hw hq hok hb hd
    have hTn' : ∀ ad ∈ Ch s'.env o ++ T, w.heap[ad.block]? ≠ some hole := by
     intro ad had
     rcases List.mem_append.1 had with h1 | h1
     ·exact Ls hok hd ad h1
     ·exact hTn ad h1
    obtain ⟨e, hk, hrun⟩ := Es hq hd hrs
    obtain ⟨s3, hk, hr3, hv3, hl3⟩ := Bn hk hrs
    have hloc3 : ∀ id, getL s3 F id = getL s F id := fun id => by simp only [getL, hl3, hloc]
    have hloc' : ∀ id, getL s' F id = getL s F id := fun id => by simp only [getL, hloc]
    refine take (conc ρ e) s3 (Ch s'.env o ++ T) (Fc s'.env o ++ TL) (fun t ht => List.mem_append_right _ ht) (fun t ht => List.mem_append_right _ ht) hTn' hloc3 hb (fun w₁ hsn => .inl ⟨hw, hrun w₁ ?_⟩) hk hr3 (hvs.trans (hv3 _))
    intro t x ad hop hev
    have hsn := hsn (by simp only [Lm, hop])
    simp only [Al, hop] at hd
    unfold addrOf at hd
    split at hd
    ·rename_i id off hox
     have h1 := A2 hrs.env hox
     rw [hev] at h1
     simp only [conc, Value.pointer.injEq, Option.some.injEq] at h1
     subst h1
     have hin : id ∈ Fc s'.env o ++ TL := List.mem_append_left _ (by simp only [Fc, hop, hox, List.mem_singleton])
     split at hd
     ·rename_i lb hgl _; exact hsn.2 id hin lb (by rw [hloc3, ← hloc']; exact hgl)
     ·rename_i lb hgl _; exact hsn.2 id hin lb (by rw [hloc3, ← hloc']; exact hgl)
     ·exact hd.elim
    ·rename_i p hox
     have h1 := A2 hrs.env hox
     rw [hev] at h1
     simp only [conc, Value.pointer.injEq] at h1
     subst h1
     refine hsn.1 ad (List.mem_append_left _ ?_)
     simp only [Ch, hop, hox, List.mem_singleton]
    ·exact hd.elim
   have skip : ∀ s', s'.loc = s.loc → Rel wi wi₀ n F s' a w w₀ ρ → Evol (dsts ops.toList) s₀ s' ρ₀ ρ → Region.wanted o (yielded ops a.tmps) = false → En ops bars rest L i = true →
     putE n s' o.dst (.val undef) (fun s'' => A3 P H n ops bars K rest true (L.setIfInBounds i true) T TL F s'' w) →
     Bl P ops Q (Ao bars (.cons i rest)) (Snap T TL s F ρ w₀) (fuel + 1) L a w₀ := by
    intro s' hloc hrs hvs hw hb hd
    obtain ⟨s3, hk, hr3, hv3, hl3⟩ := Bn hd hrs
    have hloc3 : ∀ id, getL s3 F id = getL s F id := fun id => by simp only [getL, hl3, hloc]
    exact take undef s3 T TL (fun _ h => h) (fun _ h => h) hTn hloc3 hb (fun w₁ _ => .inr ⟨hw, rfl⟩) hk hr3 (hvs.trans (hv3 _))
   have loud : ∀ s', s'.loc = s.loc → Rel wi wi₀ n F s' a w w₀ ρ → Evol (dsts ops.toList) s₀ s' ρ₀ ρ → Region.wanted o (yielded ops a.tmps) = true →
     (cond (Be bars i)
      (Al P H F o s' (fun e s'' w' => putE n s'' o.dst e fun s3 => A3 P H n ops bars K rest true (L.setIfInBounds i true) [] [] F s3 w') (fun c w' => K (.panic c) { s' with env := drop (dsts ops.toList) s'.env } w') w)
      (Al P H (pick TL s'.loc ++ F) o { s' with loc := drop TL s'.loc } (fun e s'' w' => Bb w w' T ∧ putE n { s'' with loc := s''.loc ++ pick TL s'.loc } o.dst e fun s3 => A3 P H n ops bars K rest true (L.setIfInBounds i true) T TL F s3 w') (fun c w' => K (.panic c) { s' with env := drop (dsts ops.toList) s'.env, loc := drop TL s'.loc ++ pick TL s'.loc } w') w)) →
     wpOp P ops Q i (fun a' w' => (Co (Ao bars (.cons i rest)) (L.setIfInBounds i true) = true ∨ Snap T TL s F ρ w₀ w') ∧ Bl P ops Q (Ao bars (.cons i rest)) (Snap T TL s F ρ w₀) fuel (L.setIfInBounds i true) a' w') a w₀ := by
    intro s' hloc hrs hvs hw hd
    unfold wpOp
    simp only [ho, hw, if_true]
    left
    cases hbar : Be bars i
    ·rw [hbar] at hd
     simp only [cond_false] at hd
     have hnb : Ao bars (.cons i rest) = Ao bars rest := by simp only [Ao, hbar, cond_false]
     rw [hnb]
     have hfz : Rel wi wi₀ n (pick TL s'.loc ++ F) { s' with loc := drop TL s'.loc } a w w₀ ρ := by
      have hgl : ∀ id, getL { s' with loc := drop TL s'.loc } (pick TL s'.loc ++ F) id = getL s' F id := fun id => by
       simp only [getL, Bu, get_append, Cz]
       by_cases hid : id ∈ TL
       ·simp only [hid, if_true]
        cases get s'.loc id <;> rfl
       ·simp only [hid, if_false]
      refine ⟨hrs.size, hrs.nodef, hrs.hides, hrs.kept, hrs.env, fun id lb h => hrs.loc id lb (by rw [← hgl]; exact h), fun id id' lb lb' h1 h2 => hrs.inj id id' lb lb' (by rw [← hgl]; exact h1) (by rw [← hgl]; exact h2), fun id lb h => ?_⟩
      rw [get_append, Cz] at h
      rw [Bu]
      by_cases hid : id ∈ TL
      ·rw [if_pos hid]
      ·rw [if_neg hid]
       rw [if_neg hid] at h
       exact hrs.disj id lb h
     refine H2 hd hfz (fun e s'' w' ρ' w₀' hk he hp hkept hpf hr' => ?_) (fun c w' w₀' hf hr' => ?_)
     rotate_left
     ·have hthaw : Rel wi wi₀ n F { s' with loc := drop TL s'.loc ++ pick TL s'.loc } a w' w₀' ρ := by
       have hgl : ∀ id, getL { s' with loc := drop TL s'.loc ++ pick TL s'.loc } F id = getL { s' with loc := drop TL s'.loc } (pick TL s'.loc ++ F) id := fun id => by
        simp only [getL, get_append]
        cases get (drop TL s'.loc) id <;> simp
        cases get (pick TL s'.loc) id <;> simp
       refine ⟨hr'.size, hr'.nodef, hr'.hides, hr'.kept, hr'.env, fun id lb h => hr'.loc id lb (by rw [← hgl]; exact h), fun id id' lb lb' h1 h2 => hr'.inj id id' lb lb' (by rw [← hgl]; exact h1) (by rw [← hgl]; exact h2), fun id lb h => ?_⟩
       have h1 := hrs.disj id lb h
       have h2 : get (pick TL s'.loc) id = none := by rw [Cz, h1]; split <;> rfl
       have h3 : get (drop TL s'.loc) id = none := by rw [Bu, h1]; split <;> rfl
       rw [get_append, h3]; exact h2
      exact hPn c { s' with loc := drop TL s'.loc ++ pick TL s'.loc } a w' w₀' ρ hf hthaw ha ⟨hvs.mem, hvs.pin, hvs.defs⟩
     obtain ⟨hsame, hk⟩ := hk
     have hthaw : Rel wi wi₀ n F { s'' with loc := s''.loc ++ pick TL s'.loc } a w' w₀' ρ' := by
      have hgl : ∀ id, getL { s'' with loc := s''.loc ++ pick TL s'.loc } F id = getL s'' (pick TL s'.loc ++ F) id := fun id => by
       simp only [getL, get_append]
       cases get s''.loc id <;> simp
       cases get (pick TL s'.loc) id <;> simp
      refine ⟨hr'.size, hr'.nodef, hr'.hides, hr'.kept, hr'.env, fun id lb h => hr'.loc id lb (by rw [← hgl]; exact h), fun id id' lb lb' h1 h2 => hr'.inj id id' lb lb' (by rw [← hgl]; exact h1) (by rw [← hgl]; exact h2), fun id lb h => ?_⟩
      have h1 := hrs.disj id lb h
      have h3 : get (pick TL s'.loc) id = none := by rw [Cz, h1]; split <;> rfl
      have h2 : get (pick TL s'.loc ++ F) id = some lb := by rw [get_append, h3]; exact h
      rw [get_append, hr'.disj id lb h2]; exact h3
     obtain ⟨s3, hk, hr3, hv3, hl3⟩ := Bn hk hthaw
     have hev : Evol (dsts ops.toList) s₀ s3 ρ₀ ρ' := by
      refine (hvs.trans (Evol.push (s' := { s'' with loc := s''.loc ++ pick TL s'.loc }) he (hr'.nodef.symm.trans hrs.nodef) hp)).trans (hv3 _)
     have hTn' : ∀ ad ∈ T, w'.heap[ad.block]? ≠ some hole := fun ad hd => by rw [Gw hsame ad hd]; exact hTn ad hd
     have hrec := ih (L.setIfInBounds i true) T TL s3 (a.put o.dst (conc ρ' e)) w' w₀' ρ' fuel hf' hsz' hTn' hk hr3 (hstep _) hev
     have hT : ∀ ad ∈ T, w₀'.heap[ad.block]? = w₀.heap[ad.block]? := fun ad hd => Lq hrs.hides hr'.hides (hTn ad hd) (Gw hsame ad hd)
     have hold : ∀ id ∈ TL, ∀ lb, getL s F id = some lb → w₀'.heap[ρ id]? = w₀.heap[ρ id]? ∧ ρ' id = ρ id ∧ getL s3 F id = some lb := by
      intro id hid lb hl
      have hl' : getL s' F id = some lb := by simp only [getL, hloc] at hl ⊢; exact hl
      have hF : get (pick TL s'.loc ++ F) id = some lb := by
       rw [get_append, Cz, if_pos hid]; unfold getL at hl'; revert hl'; cases get s'.loc id <;> exact fun h => h
      have hpi := hpf id lb hF
      have hgl : getL s'' (pick TL s'.loc ++ F) id = some lb := by unfold getL; rw [hr'.disj id lb hF]; exact hF
      refine ⟨?_, hpi, ?_⟩
      ·have h1 := (hr'.loc id lb hgl).2.1
       rw [hpi] at h1
       rw [h1, (hrs.loc id lb hl').2.1]
      ·simp only [getL, hl3, get_append, hr'.disj id lb hF, Cz, if_pos hid]
       unfold getL at hl'; revert hl'; cases get s'.loc id <;> exact fun h => h
     refine ⟨.inr ⟨hT, fun id hid lb hl => (hold id hid lb hl).1⟩, Db (fun w₁ hsn => ⟨fun ad hd => (hsn.1 ad hd).trans (hT ad hd), fun id hid lb hl => ?_⟩) _ _ _ _ hrec⟩
     obtain ⟨h1, h2, h3⟩ := hold id hid lb hl
     have := hsn.2 id hid lb h3
     rw [h2] at this
     rw [this]; exact h1
    ·rw [hbar] at hd
     simp only [cond_true] at hd
     have hnb : Ao bars (.cons i rest) = some i := by simp only [Ao, hbar, cond_true]
     rw [hnb]
     refine H2 hd hrs (fun e s'' w' ρ' w₀' hk he hp _ _ hr' => ?_) (fun c w' w₀' hf hr' => hPn c s' a w' w₀' ρ hf hr' ha hvs)
     obtain ⟨s3, hk, hr3, hv3, hl3⟩ := Bn hk hr'
     have hev : Evol (dsts ops.toList) s₀ s3 ρ₀ ρ' := (hvs.trans (Evol.push he (hr'.nodef.symm.trans hrs.nodef) hp)).trans (hv3 _)
     have hrec := ih (L.setIfInBounds i true) [] [] s3 (a.put o.dst (conc ρ' e)) w' w₀' ρ' fuel hf' hsz' (fun _ h => by cases h) hk hr3 (hstep _) hev
     have hklt : i < L.size := by
      rw [hsz]
      exact (Array.getElem?_eq_some_iff.1 ho).1
     have hon : Co (some i) (L.setIfInBounds i true) = true := by
      simp [Co, hklt]
     exact ⟨.inl hon, G8 _ _ _ _ hon hrec⟩
   -- the guard
   have base : ∀ s', s'.loc = s.loc → Rel wi wi₀ n F s' a w w₀ ρ → Evol (dsts ops.toList) s₀ s' ρ₀ ρ → Region.wanted o (yielded ops a.tmps) = true →
     (cond (As H o) (Aj (chk && Hr P o && En ops bars rest L i) (Al P H F o s' (fun e s'' w' => putE n s'' o.dst e fun s3 => A3 P H n ops bars K rest true (L.setIfInBounds i true) (Ch s'.env o ++ T) (Fc s'.env o ++ TL) F s3 w') (fun _ _ => False) w))
      (Aj (!chk || Eo (Region.ready .any ops L) [i]) (cond (Be bars i)
      (Al P H F o s' (fun e s'' w' => putE n s'' o.dst e fun s3 => A3 P H n ops bars K rest true (L.setIfInBounds i true) [] [] F s3 w') (fun c w' => K (.panic c) { s' with env := drop (dsts ops.toList) s'.env } w') w)
      (Al P H (pick TL s'.loc ++ F) o { s' with loc := drop TL s'.loc } (fun e s'' w' => Bb w w' T ∧ putE n { s'' with loc := s''.loc ++ pick TL s'.loc } o.dst e fun s3 => A3 P H n ops bars K rest true (L.setIfInBounds i true) T TL F s3 w') (fun c w' => K (.panic c) { s' with env := drop (dsts ops.toList) s'.env, loc := drop TL s'.loc ++ pick TL s'.loc } w') w)))) →
     Gd P ops bars Q (.cons i rest) chk (Snap T TL s F ρ w₀) (fuel + 1) L a w₀ := by
    intro s' hloc hrs hvs hw hd
    cases hq : As H o
    ·rw [hq] at hd
     obtain ⟨h1, h2⟩ := Ab hd
     have hl := loud s' hloc hrs hvs hw h2
     cases chk
     ·intro fuel' he k hk
      simp only [Ord.heads, List.mem_singleton] at hk
      subst hk
      cases he
      exact hl
     ·have hready := Fh (show Eo (Region.ready .any ops L) [i] = true by simpa using h1)
      refine ⟨fun h0 => (by rw [hready] at h0; cases h0), fun k hk => ?_⟩
      rw [hready] at hk
      simp only [List.mem_singleton] at hk
      subst hk
      exact hl
    ·rw [hq] at hd
     obtain ⟨h1, h2⟩ := Ab hd
     simp only [Bool.and_eq_true] at h1
     obtain ⟨⟨hc, hok⟩, htk⟩ := h1
     subst hc
     exact quiet s' hloc hrs hvs hw hq hok htk h2
   have baseS : ∀ s', s'.loc = s.loc → Rel wi wi₀ n F s' a w w₀ ρ → Evol (dsts ops.toList) s₀ s' ρ₀ ρ → Region.wanted o (yielded ops a.tmps) = false →
     Aj (cond chk (En ops bars rest L i) (!Be bars i)) (putE n s' o.dst (.val undef) fun s'' => A3 P H n ops bars K rest true (L.setIfInBounds i true) T TL F s'' w) →
     Gd P ops bars Q (.cons i rest) chk (Snap T TL s F ρ w₀) (fuel + 1) L a w₀ := by
    intro s' hloc hrs hvs hw hd
    obtain ⟨h1, h2⟩ := Ab hd
    cases chk
    ·simp only [cond_false, Bool.not_eq_true'] at h1
     intro fuel' he j hj
     obtain rfl : fuel = fuel' := by omega
     simp only [Ord.heads, List.mem_singleton] at hj
     subst hj
     have hnb : Ao bars (.cons j rest) = Ao bars rest := by simp only [Ao, h1, cond_false]
     rw [hnb]
     obtain ⟨s3, hk, hr3, hv3, hl3⟩ := Bn h2 hrs
     have hloc3 : ∀ id, getL s3 F id = getL s F id := fun id => by simp only [getL, hl3, hloc]
     have hrec := ih (L.setIfInBounds j true) T TL s3 (a.put o.dst undef) w w₀ ρ fuel hf' hsz' hTn hk hr3 (hstep undef) (hvs.trans (hv3 _))
     unfold wpOp
     simp only [ho, hw, Bool.false_eq_true, if_false]
     exact ⟨.inr (Snap.refl _ _ _ _ _ _), Db (fun w₁ hw₁ => ⟨hw₁.1, fun id hid lb hl => hw₁.2 id hid lb (by rw [hloc3]; exact hl)⟩) _ _ _ _ hrec⟩
    ·exact skip s' hloc hrs hvs hw h1 h2
   split at h
   ·rename_i hg
    exact base s rfl hr hv (by simp [Region.wanted, hg]) h
   ·rename_i jj want hg
    split at h
    ·exact h.elim
    ·rename_i t ht
     have hw : ∀ b, a.tmps.getD t undef = .bool b → Region.wanted o (yielded ops a.tmps) = (b == want) := by
      intro b hb
      simp only [Region.wanted, hg, Ev ht hb]
      cases b <;> cases want <;> rfl
     split at h
     ·rename_i hget
      have hb := hr.env _ _ hget
      cases want
      ·exact baseS s rfl hr hv (by rw [hw true hb]; rfl) h
      ·exact base s rfl hr hv (by rw [hw true hb]; rfl) h
     ·rename_i hget
      have hb := hr.env _ _ hget
      cases want
      ·exact base s rfl hr hv (by rw [hw false hb]; rfl) h
      ·exact baseS s rfl hr hv (by rw [hw false hb]; rfl) h
     ·rename_i b hget
      obtain ⟨-, h1, h2⟩ := Ab h
      have hb := hr.env _ _ hget
      cases b
      ·have h2 := h2 rfl
       have hr' := hr.lit hget
       cases want
       ·exact base { s with env := (t, .lit false) :: s.env } rfl hr' (hv.trans (Evol.cons _)) (by rw [hw false hb]; rfl) h2
       ·exact baseS { s with env := (t, .lit false) :: s.env } rfl hr' (hv.trans (Evol.cons _)) (by rw [hw false hb]; rfl) h2
      ·have h1 := h1 rfl
       have hr' := hr.lit hget
       cases want
       ·exact baseS { s with env := (t, .lit true) :: s.env } rfl hr' (hv.trans (Evol.cons _)) (by rw [hw true hb]; rfl) h1
       ·exact base { s with env := (t, .lit true) :: s.env } rfl hr' (hv.trans (Evol.cons _)) (by rw [hw true hb]; rfl) h1
     ·rename_i x hget
      have hb := hr.env _ _ hget
      have hno : yielded ops a.tmps jj = none := by
       rw [Et] at ht
       have h1 : (ops[jj]?).bind (·.dst) = some t := by simpa using ht
       unfold yielded
       rw [h1]
       simp only [Option.bind_some]
       rw [Array.getD_eq_getD_getElem?] at hb
       cases hc : a.tmps[t]? with
       | none => rfl
       | some v => rw [hc] at hb; simp only [Option.getD_some, conc] at hb; rw [hb]
      exact baseS s rfl hr hv (by simp only [Region.wanted, hg, hno]; rfl) h
     ·exact h.elim
end
end Go.Sx
