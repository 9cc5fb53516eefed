/- Rows that grow and rows that are written: what a call hands back, told of lists. Conditions: none. -/
import Derived.Test.YtbmmaibbiahkkaaGreatDoorSxL
import Derived.Laws.BitsAllLaws
import Derived.Laws.CopyOwn
namespace Go.Sx
set_option linter.unusedSimpArgs false
set_option linter.unusedVariables false
section
variable {P : Program} {α : Type}
theorem Upd.then {S S' : Nat → Prop} {a b c : World} (h : Upd S a b) (h' : Upd S' b c) (hs : ∀ k, k < a.heap.size → S' k → S k) : Upd S a c :=
 ⟨h'.os.trans h.os, h'.tape.trans h.tape, h'.output.trans h.output, Nat.le_trans h.size h'.size, fun i hi hn => (h'.block i (Nat.lt_of_lt_of_le hi h.size) (fun hk => hn (hs i hi hk))).trans (h.block i hi hn)⟩
theorem Upd.then_grew {S : Nat → Prop} {a b c : World} (h : Upd S a b) (h' : Grew b c) : Upd S a c := h.then (S' := fun _ => False) h'.upd fun _ _ h => h.elim
theorem Grew.then_upd {S : Nat → Prop} {a b c : World} (h : Grew a b) (h' : Upd S b c) : Upd S a c := (h.upd (S := S)).trans h'
theorem Grew.then_own {S : Nat → Prop} {w0 w w' : World} (h : Grew w0 w) (hu : Upd S w w') (hb : ∀ b, S b → w0.heap.size ≤ b) : Grew w0 w' := hu.grew h hb
theorem Sl.upd {S : Nat → Prop} {w w' : World} {a : Option Addr} {E : Enc α} {l : List α} (h : Sl w a E l) (hu : Upd S w w') (hn : ∀ b, Blk a b → ¬ S b) : Sl w' a E l := by
 intro i x hx
 obtain ⟨d, hd, hc⟩ := h i x hx
 refine ⟨d, hd, ?_⟩
 have hb : ∀ {vs : List Value} {j : Nat}, Ah w (d.add (i * E.sz)) j vs → Ah w' (d.add (i * E.sz)) j vs := by
  intro vs
  induction vs with
  | nil => intro _ _; trivial
  | cons v r ih =>
   intro j hj
   refine ⟨hu.cell ?_ hj.1, ih hj.2⟩
   rw [show ((d.add (i * E.sz)).add j).block = d.block from by rw [Addr.add_add']; exact add_block d _]
   exact hn _ ⟨d, hd, rfl⟩
 exact hb hc
def Onto (w : World) (B : Nat) (e : TypeId) (E : Enc α) (a : Option Addr) (l : List α) (v : Value) (w' : World) : Prop :=
 ∃ a' n' c', v = .slice a' n' c' ∧ Own w' B e E a' n' c' l ∧ Upd (Blk a) w w' ∧ ∀ b, Blk a' b → Blk a b ∨ w.heap.size ≤ b
theorem Own.out_none {w : World} {B : Nat} {e : TypeId} {E : Enc α} {a : Option Addr} {n c : Nat} {l : List α} (h : Own w B e E a n c l) : a = none → c = 0 := by
 intro ha
 rcases h.out with ⟨_, _, _, h⟩ | ⟨g, _, h, _⟩
 ·exact h
 ·rw [ha] at h; cases h
theorem Own.len {w : World} {B : Nat} {e : TypeId} {E : Enc α} {a : Option Addr} {n c : Nat} {l : List α} (h : Own w B e E a n c l) : n = l.length := h.1
theorem Own.le {w : World} {B : Nat} {e : TypeId} {E : Enc α} {a : Option Addr} {n c : Nat} {l : List α} (h : Own w B e E a n c l) : n ≤ c ∧ n ≤ maxLen ∧ c ≤ maxLen := by
 rcases h.out with ⟨_, _, rfl, rfl⟩ | ⟨g, cur, _, _, _, _, h1, h2, _⟩
 ·exact ⟨Nat.le_refl _, Nat.zero_le _, Nat.zero_le _⟩
 ·exact ⟨h1, Nat.le_trans h1 h2, h2⟩
theorem Own.blk {w : World} {B : Nat} {e : TypeId} {E : Enc α} {a : Option Addr} {n c : Nat} {l : List α} (h : Own w B e E a n c l) {b : Nat} (hb : Blk a b) : B ≤ b ∧ b < w.heap.size := by
 obtain ⟨d, rfl, rfl⟩ := hb
 rcases h.out with ⟨h, _⟩ | ⟨g, cur, hd, hB, hg, _⟩
 ·cases h
 ·cases hd; exact ⟨hB, lt_of_heap hg⟩
theorem Bz {t ty e : TypeId} {B bytes : Nat} {E : Enc α} {w w1 : World} {a : Option Addr} {n c b m : Nat} {cs : Array Value} {l l2 : List α} {k : Value → World → Prop}
  (he : C4 P t e E.sz bytes) (ho : Own w B e E a n c l) (ha : Ar w w1 b (.cells cs e)) (hcs : cs.toList = l2.flatMap E.f) (hm : m = l2.length) (hB : B ≤ w.heap.size)
  (h63 : l.length + l2.length ≤ maxLen) (hby : (l.length + l2.length) * bytes ≤ 140737488355328)
  (hk : ∀ v w', Onto w B e E a (l ++ l2) v w' → k v w') :
  SemW P (Builtin.append_ #[t, t] ty #[.slice a n c, .slice (some ⟨b, 0, none⟩) m m]) k w1 := by
 have h2 := Own.alloc (E := E) (l := l2) ha (Nat.le_refl _) hcs (by omega)
 subst hm
 refine H8 he (ho.grew ha.grew) h2.sl rfl (by simp) (Nat.le_trans hB ha.grew.size) h63 hby fun a' c' w' h1 hu hb => hk _ _ ⟨a', _, c', rfl, h1, ha.grew.then_upd hu, fun x hx => (hb x hx).imp id (Nat.le_trans ha.grew.size)⟩
theorem I8 {t ty e : TypeId} {B bytes : Nat} {E : Enc α} {w : World} {a a2 : Option Addr} {n c m c2 : Nat} {l l2 : List α} {k : Value → World → Prop}
  (he : C4 P t e E.sz bytes) (ho : Own w B e E a n c l) (hs : Sl w a2 E l2) (hm : m = l2.length) (hc2 : a2 = none → c2 = 0) (hB : B ≤ w.heap.size)
  (h63 : l.length + l2.length ≤ maxLen) (hby : (l.length + l2.length) * bytes ≤ 140737488355328)
  (hk : ∀ v w', Onto w B e E a (l ++ l2) v w' → k v w') :
  SemW P (Builtin.append_ #[t, t] ty #[.slice a n c, .slice a2 m c2]) k w :=
 H8 he ho hs hm hc2 hB h63 hby fun a' c' w' h1 hu hb => hk _ _ ⟨a', _, c', rfl, h1, hu, hb⟩
theorem Kq {w : World} {g o : Nat} {cs : Array Value} {e : TypeId} {fr : Nat × Nat} (hg : w.heap[g]? = some (.cells cs e fr)) : w.cell? ⟨g, o, none⟩ = cs[o]? := by simp [World.cell?, hg]
theorem B3 {w : World} {g : Nat} {cs : Array Value} {e : TypeId} {fr : Nat × Nat} (hg : w.heap[g]? = some (.cells cs e fr)) (o : Nat) (v : Value) :
  (w.setCell ⟨g, o, none⟩ v).heap[g]? = some (.cells (cs.setIfInBounds o v) e fr) ∧ Upd (fun b => b = g) w (w.setCell ⟨g, o, none⟩ v) := by
 refine ⟨?_, rfl, rfl, rfl, by simp [World.setCell], fun k hk hn => ?_⟩
 ·simp [World.setCell, Array.getElem?_modify, hg]
 ·have : ¬ g = k := fun e => hn e.symm
  simp [World.setCell, Array.getElem?_modify, this]
theorem Ea : ∀ {vs : List Value} {w : World} {g o i : Nat} {cs : Array Value} {e : TypeId} {fr : Nat × Nat}, w.heap[g]? = some (.cells cs e fr) →
  ∃ cs', (setCells w ⟨g, o, none⟩ i vs).heap[g]? = some (.cells cs' e fr) ∧ cs'.size = cs.size ∧ (∀ j, cs'[j]? = if o + i ≤ j ∧ j < o + i + vs.length ∧ j < cs.size then vs[j - (o + i)]? else cs[j]?) ∧ Upd (fun b => b = g) w (setCells w ⟨g, o, none⟩ i vs)
 | [], w, g, o, i, cs, e, fr, hg => ⟨cs, hg, rfl, fun j => by rw [if_neg (by simp only [List.length_nil]; omega)], Upd.refl _ _⟩
 | v :: r, w, g, o, i, cs, e, fr, hg => by
  obtain ⟨h1, h2⟩ := B3 hg (o + i) v
  obtain ⟨cs', h3, h4, h5, h6⟩ := Ea (vs := r) (o := o) (i := i + 1) h1
  rw [setCells, Bj]
  refine ⟨cs', h3, by rw [h4]; simp, fun j => ?_, h2.trans h6⟩
  rw [h5 j]
  simp only [Array.size_setIfInBounds, Array.getElem?_setIfInBounds, List.length_cons]
  by_cases hj : o + i = j
  ·subst hj
   have c1 : ¬ (o + (i + 1) ≤ o + i ∧ o + i < o + (i + 1) + r.length ∧ o + i < cs.size) := by omega
   by_cases hlt : o + i < cs.size
   ·have c2 : o + i ≤ o + i ∧ o + i < o + i + (r.length + 1) ∧ o + i < cs.size := by omega
    rw [if_neg c1, if_pos c2]; simp [hlt]
   ·have c2 : ¬ (o + i ≤ o + i ∧ o + i < o + i + (r.length + 1) ∧ o + i < cs.size) := by omega
    rw [if_neg c1, if_neg c2]; simp [hlt]
  ·by_cases hin : o + (i + 1) ≤ j ∧ j < o + (i + 1) + r.length ∧ j < cs.size
   ·have c2 : o + i ≤ j ∧ j < o + i + (r.length + 1) ∧ j < cs.size := by omega
    rw [if_pos hin, if_pos c2]
    rw [show j - (o + i) = (j - (o + (i + 1))) + 1 from by omega]
    simp
   ·have c2 : ¬ (o + i ≤ j ∧ j < o + i + (r.length + 1) ∧ j < cs.size) := by omega
    rw [if_neg hin, if_neg hj, if_neg c2]
theorem Eb {w : World} {g o : Nat} {cs : Array Value} {e : TypeId} (hg : w.heap[g]? = some (.cells cs e (0, 0))) : ∀ {vs : List Value} {i : Nat}, o + i + vs.length ≤ cs.size → An w ⟨g, o, none⟩ i vs
 | [], _, _ => trivial
 | v :: r, i, h => by
  simp only [List.length_cons] at h
  refine ⟨?_, Eb hg (by omega)⟩
  rw [Bj, Kq hg]
  have : o + i < cs.size := by omega
  simp [World.frozen?, hg, this]
theorem Kr (E : Enc α) : ∀ (l : List α) (i : Nat) (x : α), i < l.length → ∀ j, ((l.set i x).flatMap E.f)[j]? = if i * E.sz ≤ j ∧ j < i * E.sz + E.sz then (E.f x)[j - i * E.sz]? else (l.flatMap E.f)[j]?
 | [], i, x, h, j => by simp at h
 | y :: r, 0, x, _, j => by
  simp only [List.set_cons_zero, List.flatMap_cons, Nat.zero_mul, Nat.zero_le, true_and, Nat.zero_add, Nat.sub_zero]
  by_cases hj : j < E.sz
  ·rw [if_pos hj, List.getElem?_append_left (by rw [E.len]; exact hj)]
  ·rw [if_neg hj, List.getElem?_append_right (by rw [E.len]; omega), List.getElem?_append_right (by rw [E.len]; omega), E.len, E.len]
 | y :: r, i + 1, x, h, j => by
  simp only [List.set_cons_succ, List.flatMap_cons]
  have hs : (i + 1) * E.sz = E.sz + i * E.sz := by rw [Nat.add_mul]; omega
  by_cases hj : j < E.sz
  ·rw [if_neg (by omega), List.getElem?_append_left (by rw [E.len]; exact hj), List.getElem?_append_left (by rw [E.len]; exact hj)]
  ·rw [List.getElem?_append_right (by rw [E.len]; omega), List.getElem?_append_right (by rw [E.len]; omega), E.len]
   rw [Kr E r i x (by simpa using h) (j - E.sz)]
   by_cases hin : i * E.sz ≤ j - E.sz ∧ j - E.sz < i * E.sz + E.sz
   ·rw [if_pos hin, if_pos (by omega), hs]; congr 1; omega
   ·rw [if_neg hin, if_neg (by omega)]
theorem Own.set {w : World} {B : Nat} {e : TypeId} {E : Enc α} {a : Option Addr} {n c : Nat} {l : List α} (h : Own w B e E a n c l) {i : Nat} (hi : i < l.length) (x : α) :
  ∃ d, a = some d ∧ An w (d.add (i * E.sz)) 0 (E.f x) ∧ Own (setCells w (d.add (i * E.sz)) 0 (E.f x)) B e E a n c (l.set i x) ∧ Upd (Blk a) w (setCells w (d.add (i * E.sz)) 0 (E.f x)) := by
 rcases h.out with ⟨-, rfl, -, -⟩ | ⟨g, cur, rfl, hb, hg, hn, h1, h2, h3, h4⟩
 ·simp at hi
 ·have hle : i * E.sz + E.sz ≤ n * E.sz := by
   rw [← Nat.succ_mul]; exact Nat.mul_le_mul_right _ (by omega)
  have hle2 : n * E.sz ≤ cur.size := by rw [h3]; exact Nat.mul_le_mul_right _ h1
  refine ⟨_, rfl, ?_⟩
  rw [Bj, Nat.zero_add]
  obtain ⟨cs', k1, k2, k3, k4⟩ := Ea (vs := E.f x) (o := i * E.sz) (i := 0) hg
  refine ⟨Eb hg (by rw [E.len]; omega), Own.mk' (by simp [hn]) hb k1 h1 h2 (by rw [k2, h3]) ?_, k4.mono fun b _ hb => ⟨_, rfl, hb.symm⟩⟩
  apply List.ext_getElem?
  intro j
  rw [Kr E l i x hi, ← h4, List.getElem?_take, List.getElem?_take]
  by_cases hj : j < n * E.sz
  ·rw [if_pos hj, if_pos hj]
   have : cs'.toList[j]? = cs'[j]? := by simp
   rw [this, k3 j, E.len]
   by_cases hin : i * E.sz ≤ j ∧ j < i * E.sz + E.sz
   ·rw [if_pos (by omega), if_pos hin, Nat.add_zero]
   ·rw [if_neg (by omega), if_neg hin]; simp
  ·rw [if_neg hj, if_neg hj, if_neg (by omega)]
theorem I9 {t e : TypeId} {bytes : Nat} {E : Enc α} {w : World} {c : Nat} {k1 k2 : IntKind} {k : Value → World → Prop}
  (hu : P.underlying t = some (.slice e)) {z : Value} (hi : (P.info? e).map (fun i => (i.zero, i.size, i.bytes)) = some (some z, E.sz, bytes))
  (hb : bytes * c ≤ 281474976710656) (h63 : c ≤ maxLen) (hk : ∀ b w', Own w' w.heap.size e E (some ⟨b, 0, none⟩) 0 c ([] : List α) → Grew w w' → k (.slice (some ⟨b, 0, none⟩) 0 c) w') :
  SemW P (Instr.makeSlice t (.int k1 0) (.int k2 (c : Int))) k w := by
 cases hii : P.info? e with
 | none => rw [hii] at hi; cases hi
 | some i =>
  rw [hii] at hi
  simp only [Option.map_some, Option.some.injEq, Prod.mk.injEq] at hi
  refine SemW.of_run none (by simp) fun w₀ hw => ?_
  obtain ⟨w₀', hr, ho, hg⟩ := run_make_own (P := P) w₀ w₀.heap.size t e i z E.sz hu hii hi.1 hi.2.1 k1 k2 c (by rw [hi.2.2]; exact hb) h63 (Nat.le_refl _)
  refine ⟨_, w₀', hr, hg, fun hg' => hk _ _ ?_ ⟨hg'.os, hg'.tape, hg'.output, hg'.size, fun b hb => hg'.block b hb (by simp)⟩⟩
  rcases ho.2 with ⟨h1, -⟩ | ⟨g, cap, cur, h1, h2, h3, h4, h5, h6, h7⟩
  ·cases h1
  ·simp only [Value.slice.injEq, Option.some.injEq, Addr.mk.injEq] at h1
   obtain ⟨⟨rfl, -⟩, -, rfl⟩ := h1
   rw [← hw.size]
   refine Own.mk' (by simp) (Nat.le_refl _) ?_ h4 h5 h6 (by rw [h7]; rfl)
   rw [A0 (by intro he; have := lt_of_heap he; omega), ← h3, hw.size]
end
end Go.Sx
