/- The reference's sources in memory, and rising rows of keys. Conditions: none. -/
import Derived.Test.YtoljpkdokpinhaaGreatSxSs
namespace Go.Sx
set_option linter.unusedSimpArgs false
set_option linter.unusedVariables false

theorem strict_ext : ∀ {l r : List Int}, l.Pairwise (· < ·) → r.Pairwise (· < ·) → (∀ x, x ∈ l ↔ x ∈ r) → l = r
  | [], [], _, _, _ => rfl
  | [], y :: r, _, _, h => absurd ((h y).2 (by simp)) (by simp)
  | x :: l, [], _, _, h => absurd ((h x).1 (by simp)) (by simp)
  | x :: l, y :: r, hl, hr, h => by
    rw [List.pairwise_cons] at hl hr
    have hxy : x = y := by
      have h1 := (h x).1 (by simp)
      have h2 := (h y).2 (by simp)
      rcases List.mem_cons.1 h1 with e | h1
      · exact e
      · rcases List.mem_cons.1 h2 with e | h2
        · exact e.symm
        · have := hl.1 y h2; have := hr.1 x h1; omega
    subst hxy
    congr 1
    refine strict_ext hl.2 hr.2 fun z => ⟨fun hz => ?_, fun hz => ?_⟩
    · rcases List.mem_cons.1 ((h z).1 (by simp [hz])) with e | h'
      · subst e; exact absurd (hl.1 z hz) (by omega)
      · exact h'
    · rcases List.mem_cons.1 ((h z).2 (by simp [hz])) with e | h'
      · subst e; exact absurd (hr.1 z hz) (by omega)
      · exact h'
/-- a key put in its place -/
theorem strict_put {l : List Int} {k : Int} {j : Nat} (hl : l.Pairwise (· < ·)) (hj : j ≤ l.length) (h1 : ∀ x ∈ l.take j, x < k) (h2 : ∀ x, l[j]? = some x → k < x) :
    (l.take j ++ k :: l.drop j).Pairwise (· < ·) ∧ (∀ x, x ∈ l.take j ++ k :: l.drop j ↔ x = k ∨ x ∈ l) ∧ k ∉ l := by
  have hd : ∀ x ∈ l.drop j, k < x := by
    intro x hx
    obtain ⟨i, hi⟩ := List.getElem?_of_mem hx
    rw [List.getElem?_drop] at hi
    cases i with
    | zero => exact h2 x (by simpa using hi)
    | succ i =>
      have hlt := (List.getElem?_eq_some_iff.1 hi).1
      have hj' : l[j]? = some (l[j]'(by omega)) := List.getElem?_eq_getElem (by omega)
      have h3 := h2 _ hj'
      have h4 := (List.pairwise_iff_getElem.1 hl) j (j + (i + 1)) (by omega) hlt (by omega)
      have h5 := (List.getElem?_eq_some_iff.1 hi).2
      rw [h5] at h4; omega
  have hsplit := List.take_append_drop j l
  refine ⟨?_, fun x => ?_, fun hk => ?_⟩
  · rw [List.pairwise_append]
    refine ⟨hl.sublist (List.take_sublist _ _), ?_, ?_⟩
    · rw [List.pairwise_cons]
      exact ⟨hd, hl.sublist (List.drop_sublist _ _)⟩
    · intro a ha b hb
      have ha' := h1 a ha
      rcases List.mem_cons.1 hb with rfl | hb
      · exact ha'
      · have := hd b hb; omega
  · rw [List.mem_append, List.mem_cons]
    have : x ∈ l ↔ x ∈ l.take j ∨ x ∈ l.drop j := by rw [← List.mem_append, hsplit]
    rw [this]
    constructor
    · rintro (h | h | h)
      · exact .inr (.inl h)
      · exact .inl h
      · exact .inr (.inr h)
    · rintro (h | h | h)
      · exact .inr (.inl h)
      · exact .inl h
      · exact .inr (.inr h)
  · rw [← hsplit, List.mem_append] at hk
    rcases hk with hk | hk
    · have := h1 k hk; omega
    · have := hd k hk; omega

/-! ### in memory -/
structure RSrcX where
  q : Nat
  lb : Nat
  ob : Nat
  lc : Nat
  oc : Nat
  la : Option Addr × Nat × Nat
  hs : List (Option Addr × Nat × Nat)
def RSrcX.Foot (x : RSrcX) (b : Nat) : Prop := b = x.q ∨ b = x.lb ∨ b = x.ob ∨ Blk x.la.1 b ∨ ∃ s ∈ x.hs, Blk s.1 b
structure RSrcAt (tS tL tB tR tO : TypeId) (w : World) (B : Nat) (x : RSrcX) (v : SrcV) : Prop where
  row : Row w x.q tS [.slice (some ⟨x.lb, 0, none⟩) x.hs.length x.lc, .slice (some ⟨x.ob, 0, none⟩) x.hs.length x.oc, .slice x.la.1 x.la.2.1 x.la.2.2]
  heads : Own w B tL Enc.slice (some ⟨x.lb, 0, none⟩) x.hs.length x.lc x.hs
  offs : Own w B tB Enc.boolE (some ⟨x.ob, 0, none⟩) x.hs.length x.oc (v.parts.map (·.2))
  len : x.hs.length = v.parts.length
  logs : ∀ (i : Nat) s, x.hs[i]? = some s → ∃ q, v.parts[i]? = some q ∧ Own w B tR Enc.rcd s.1 s.2.1 s.2.2 q.1
  apart : ∀ (i j : Nat) s t, i ≠ j → x.hs[i]? = some s → x.hs[j]? = some t → ∀ b, Blk s.1 b → ¬ Blk t.1 b
  list : Own w B tO Enc.op3 x.la.1 x.la.2.1 x.la.2.2 v.list
  qB : B ≤ x.q
  fits : v.Fits
  keys : v.KeysOk
def RSrcD (tS tL tB tR tO : TypeId) : Prop := tS ≠ tL ∧ tS ≠ tB ∧ tS ≠ tR ∧ tS ≠ tO ∧ tL ≠ tB ∧ tL ≠ tR ∧ tL ≠ tO ∧ tB ≠ tR ∧ tB ≠ tO ∧ tR ≠ tO
section
variable {tS tL tB tR tO : TypeId}
theorem RSrcAt.foot {w : World} {B : Nat} {x : RSrcX} {v : SrcV} (h : RSrcAt tS tL tB tR tO w B x v) {b : Nat} (hb : x.Foot b) : B ≤ b ∧ b < w.heap.size := by
  rcases hb with rfl | rfl | rfl | hb | ⟨s, hs, hb⟩
  · exact ⟨h.qB, h.row.lt⟩
  · exact h.heads.blk (b := x.lb) ⟨_, rfl, rfl⟩
  · exact h.offs.blk (b := x.ob) ⟨_, rfl, rfl⟩
  · exact h.list.blk hb
  · obtain ⟨i, hi⟩ := List.getElem?_of_mem hs
    obtain ⟨q, -, ho⟩ := h.logs i s hi
    exact ho.blk hb
theorem RSrcAt.upd {S : Nat → Prop} {w w' : World} {B : Nat} {x : RSrcX} {v : SrcV} (h : RSrcAt tS tL tB tR tO w B x v) (hu : Upd S w w') (hn : ∀ b, x.Foot b → ¬ S b) : RSrcAt tS tL tB tR tO w' B x v :=
  ⟨h.row.upd hu (hn _ (.inl rfl)), h.heads.upd hu (fun b hb => hn b (by obtain ⟨d, hd, rfl⟩ := hb; cases hd; exact .inr (.inl rfl))), h.offs.upd hu (fun b hb => hn b (by obtain ⟨d, hd, rfl⟩ := hb; cases hd; exact .inr (.inr (.inl rfl)))), h.len, fun i s hs => by
    obtain ⟨q, h1, h3⟩ := h.logs i s hs
    exact ⟨q, h1, h3.upd hu fun b hb => hn b (.inr (.inr (.inr (.inr ⟨s, List.mem_of_getElem? hs, hb⟩))))⟩, h.apart, h.list.upd hu fun b hb => hn b (.inr (.inr (.inr (.inl hb)))), h.qB, h.fits, h.keys⟩
theorem RSrcAt.grew {w w' : World} {B : Nat} {x : RSrcX} {v : SrcV} (h : RSrcAt tS tL tB tR tO w B x v) (hg : Grew w w') : RSrcAt tS tL tB tR tO w' B x v := h.upd (hg.upd (S := fun _ => False)) fun _ _ h => h
structure RSrcMoves (tS tL tB tR tO : TypeId) (w : World) (B : Nat) (x : RSrcX) (w' : World) (v' : SrcV) : Prop where
  out : ∃ x', RSrcAt tS tL tB tR tO w' B x' v' ∧ x'.q = x.q ∧ Upd x.Foot w w' ∧ ∀ b, x'.Foot b → x.Foot b ∨ w.heap.size ≤ b
theorem RSrcMoves.grew {w w' : World} {B : Nat} {x : RSrcX} {v : SrcV} (h : RSrcAt tS tL tB tR tO w B x v) (hg : Grew w w') : RSrcMoves tS tL tB tR tO w B x w' v := ⟨⟨x, h.grew hg, rfl, hg.upd, fun _ hb => .inl hb⟩⟩
theorem RSrcMoves.after {w0 w w' : World} {B : Nat} {x : RSrcX} {v' : SrcV} (h : RSrcMoves tS tL tB tR tO w B x w' v') (hg : Grew w0 w) : RSrcMoves tS tL tB tR tO w0 B x w' v' := by
  obtain ⟨x', h1, h2, h3, h4⟩ := h.out
  exact ⟨⟨x', h1, h2, hg.then_upd h3, fun b hb => (h4 b hb).imp id (Nat.le_trans hg.size)⟩⟩

theorem RSrcAt.part {w : World} {B : Nat} {x : RSrcX} {v : SrcV} (h : RSrcAt tS tL tB tR tO w B x v) {p : Int} {q : List RecV × Bool} (hq : v.getP p = some q) :
    ∃ s, x.hs[p.toNat]? = some s ∧ Own w B tR Enc.rcd s.1 s.2.1 s.2.2 q.1 ∧ w.cell? ⟨x.lb, p.toNat, none⟩ = some (.slice s.1 s.2.1 s.2.2) ∧ w.cell? ⟨x.ob, p.toNat, none⟩ = some (.bool q.2) ∧ p < x.hs.length := by
  obtain ⟨h0, h1, h2⟩ := getP_some hq
  have hlt : p.toNat < x.hs.length := by rw [h.len]; omega
  obtain ⟨s, hs⟩ : ∃ s, x.hs[p.toNat]? = some s := ⟨_, List.getElem?_eq_getElem hlt⟩
  obtain ⟨q', h3, h5⟩ := h.logs _ s hs
  rw [h2] at h3; cases h3
  obtain ⟨d, s', hd, hs', hc⟩ := h.heads.reads.at0 hlt
  rw [hs] at hs'; cases hs'
  cases hd
  obtain ⟨d2, b', hd2, hb', hc2⟩ := h.offs.reads.at0 hlt
  rw [List.getElem?_map, h2] at hb'
  cases hb'
  cases hd2
  refine ⟨s, hs, h5, ?_, ?_, by omega⟩
  · have := cellsAt_get hc 0 _ rfl
    simpa [add_mk, Enc.slice] using this
  · have := cellsAt_get hc2 0 _ rfl
    simpa [add_mk, Enc.boolE] using this

/-- a partition's log is written -/
theorem RSrcAt.setLog {w w1 : World} {B : Nat} {x : RSrcX} {v v' : SrcV} (h : RSrcAt tS tL tB tR tO w B x v) (hD : RSrcD tS tL tB tR tO) {p : Int} {q : List RecV × Bool} (hq : v.getP p = some q) {s : Option Addr × Nat × Nat} (hs : x.hs[p.toNat]? = some s)
    {a' : Option Addr} {n' c' : Nat} {log' : List RecV} (ho : Own w1 B tR Enc.rcd a' n' c' log') (hu : Upd (Blk s.1) w w1) (hb : ∀ b, Blk a' b → Blk s.1 b ∨ w.heap.size ≤ b)
    (hv1 : v'.parts = v.parts.set p.toNat (log', q.2)) (hv2 : v'.list = v.list) (hf : v'.Fits) (hk : v'.KeysOk) :
    RoomAt w1 ⟨x.lb, p.toNat, none⟩ 0 [.slice a' n' c'] ∧ ∀ w2, w2 = setCells w1 ⟨x.lb, p.toNat, none⟩ 0 [.slice a' n' c'] → RSrcMoves tS tL tB tR tO w B x w2 v' := by
  obtain ⟨d1, d2, d3, d4, d5, d6, d7, d8, d9, d10⟩ := hD
  obtain ⟨q0, hq0, ho0⟩ := h.logs _ s hs
  obtain ⟨hp0, hp1, hpq⟩ := getP_some hq
  have hsm := List.mem_of_getElem? hs
  have hlb : ∀ b, Blk (some (⟨x.lb, 0, none⟩ : Addr)) b → ¬ Blk s.1 b := own_ne h.heads ho0 d6
  have hob : ∀ b, Blk (some (⟨x.ob, 0, none⟩ : Addr)) b → ¬ Blk s.1 b := own_ne h.offs ho0 d8
  have hP1 := h.heads.upd hu hlb
  obtain ⟨g, hg, hR, hO, hU⟩ := hP1.set1 (x' := (a', n', c')) (v := .slice a' n' c') (j := 0) hs (by decide) (by simp [Enc.slice])
  cases hg
  have e : p.toNat * Enc.slice.sz + 0 = p.toNat := by simp [Enc.slice]
  rw [e] at hR hO hU
  refine ⟨hR, ?_⟩
  rintro w2 rfl
  have hU2 : Upd (fun b => Blk s.1 b ∨ b = x.lb) w (setCells w1 ⟨x.lb, p.toNat, none⟩ 0 [.slice a' n' c']) := (hu.mono fun b _ hb => .inl hb).trans (hU.mono fun b _ hb => .inr hb)
  have hil : p.toNat < x.hs.length := (List.getElem?_eq_some_iff.1 hs).1
  have hfoot : ∀ b, (Blk s.1 b ∨ b = x.lb) → x.Foot b := fun b hb => hb.elim (fun h => .inr (.inr (.inr (.inr ⟨s, hsm, h⟩)))) (fun h => .inr (.inl h))
  have hnb : ∀ {b : Nat}, b < w.heap.size → ¬ Blk s.1 b → ¬ Blk a' b := fun hlt hn hb' => (hb _ hb').elim hn (fun h => by omega)
  have hrow : ¬ (Blk s.1 x.q ∨ x.q = x.lb) := fun hh => hh.elim (h.row.own_ne ho0 d3) (fun e => h.row.own_ne h.heads d1 ⟨_, rfl, e.symm⟩)
  have hoff : ∀ b, Blk (some (⟨x.ob, 0, none⟩ : Addr)) b → ¬ (Blk s.1 b ∨ b = x.lb) := fun b hb hh => hh.elim (hob b hb) (fun e => own_ne h.offs h.heads (Ne.symm d5) b hb ⟨_, rfl, e.symm⟩)
  have hlist : ∀ b, Blk x.la.1 b → ¬ (Blk s.1 b ∨ b = x.lb) := fun b hb hh => hh.elim (own_ne h.list ho0 (Ne.symm d10) b hb) (fun e => own_ne h.list h.heads (Ne.symm d7) b hb ⟨_, rfl, e.symm⟩)
  have hset : ∀ (i : Nat) t, (x.hs.set p.toNat (a', n', c'))[i]? = some t → (i = p.toNat ∧ t = (a', n', c')) ∨ (i ≠ p.toNat ∧ x.hs[i]? = some t) := by
    intro i t ht
    rw [List.getElem?_set] at ht
    by_cases hi : p.toNat = i
    · rw [if_pos hi, if_pos (by omega)] at ht
      cases ht; exact .inl ⟨hi.symm, rfl⟩
    · rw [if_neg hi] at ht; exact .inr ⟨fun e => hi e.symm, ht⟩
  have hmap : v'.parts.map (·.2) = v.parts.map (·.2) := by
    rw [hv1]
    apply List.ext_getElem?
    intro i
    rw [List.getElem?_map, List.getElem?_map, List.getElem?_set]
    by_cases hi : p.toNat = i
    · subst hi; rw [if_pos rfl, hpq, if_pos (by omega)]; rfl
    · rw [if_neg hi]
  refine ⟨⟨{ x with hs := x.hs.set p.toNat (a', n', c') }, ⟨?_, ?_, ?_, by simp [hv1, h.len], fun i t ht => ?_, fun i k t u hik ht hu' b hbt hbu => ?_, ?_, h.qB, hf, hk⟩, rfl, hU2.mono fun b _ hb => hfoot b hb, fun b hb' => ?_⟩⟩
  · have := h.row.upd hU2 hrow
    show Row _ x.q tS [.slice (some ⟨x.lb, 0, none⟩) (x.hs.set p.toNat (a', n', c')).length x.lc, .slice (some ⟨x.ob, 0, none⟩) (x.hs.set p.toNat (a', n', c')).length x.oc, .slice x.la.1 x.la.2.1 x.la.2.2]
    rw [List.length_set]; exact this
  · show Own _ B tL Enc.slice (some ⟨x.lb, 0, none⟩) (x.hs.set p.toNat (a', n', c')).length x.lc (x.hs.set p.toNat (a', n', c'))
    rw [List.length_set]; exact hO
  · show Own _ B tB Enc.boolE (some ⟨x.ob, 0, none⟩) (x.hs.set p.toNat (a', n', c')).length x.oc (v'.parts.map (·.2))
    rw [List.length_set, hmap]; exact h.offs.upd hU2 hoff
  · rcases hset i t ht with ⟨rfl, rfl⟩ | ⟨hi, ht⟩
    · refine ⟨(log', q.2), ?_, ho.upd hU fun b hb' e => ?_⟩
      · rw [hv1, List.getElem?_set, if_pos rfl, if_pos (by omega)]
      · subst e
        have hlt : x.lb < w.heap.size := (h.foot (.inr (.inl rfl))).2
        exact hnb hlt (hlb _ ⟨_, rfl, rfl⟩) hb'
    · obtain ⟨qi, h1, h3⟩ := h.logs i t ht
      refine ⟨qi, ?_, h3.upd hU2 fun b hb' hh => ?_⟩
      · rw [hv1, List.getElem?_set, if_neg (fun e => hi e.symm)]; exact h1
      · rcases hh with hh | rfl
        · exact h.apart i p.toNat t s hi ht hs b hb' hh
        · exact own_ne h.heads h3 d6 _ ⟨_, rfl, rfl⟩ hb'
  · rcases hset i t ht with ⟨rfl, rfl⟩ | ⟨hi, ht⟩
    · rcases hset k u hu' with ⟨rfl, -⟩ | ⟨hk, hu'⟩
      · exact hik rfl
      · obtain ⟨qi, -, h3⟩ := h.logs k u hu'
        rcases hb b hbt with hh | hh
        · exact h.apart k p.toNat u s hk hu' hs b hbu hh
        · have := (h3.blk hbu).2; omega
    · rcases hset k u hu' with ⟨rfl, rfl⟩ | ⟨hk, hu'⟩
      · obtain ⟨qi, -, h3⟩ := h.logs i t ht
        rcases hb b hbu with hh | hh
        · exact h.apart i p.toNat t s hi ht hs b hbt hh
        · have := (h3.blk hbt).2; omega
      · exact h.apart i k t u hik ht hu' b hbt hbu
  · show Own _ B tO Enc.op3 x.la.1 x.la.2.1 x.la.2.2 v'.list
    rw [hv2]; exact h.list.upd hU2 hlist
  · rcases hb' with rfl | rfl | rfl | hb' | ⟨t, ht, hb'⟩
    · exact .inl (.inl rfl)
    · exact .inl (.inr (.inl rfl))
    · exact .inl (.inr (.inr (.inl rfl)))
    · exact .inl (.inr (.inr (.inr (.inl hb'))))
    · rcases mem_set ht with rfl | ht
      · exact (hb b hb').imp (fun h => .inr (.inr (.inr (.inr ⟨s, hsm, h⟩)))) id
      · exact .inl (.inr (.inr (.inr (.inr ⟨t, ht, hb'⟩))))

/-- a partition's switch is written -/
theorem RSrcAt.setOff {w : World} {B : Nat} {x : RSrcX} {v : SrcV} (h : RSrcAt tS tL tB tR tO w B x v) (hD : RSrcD tS tL tB tR tO) {p : Int} {q : List RecV × Bool} (hq : v.getP p = some q) {off : Bool} (hf : (v.setP p (q.1, off)).Fits) (hk : (v.setP p (q.1, off)).KeysOk) :
    RoomAt w ⟨x.ob, p.toNat, none⟩ 0 [.bool off] ∧ ∀ w2, w2 = setCells w ⟨x.ob, p.toNat, none⟩ 0 [.bool off] → RSrcMoves tS tL tB tR tO w B x w2 (v.setP p (q.1, off)) := by
  obtain ⟨d1, d2, d3, d4, d5, d6, d7, d8, d9, d10⟩ := hD
  obtain ⟨hp0, hp1, hpq⟩ := getP_some hq
  obtain ⟨g, hg, hR, hO, hU⟩ := h.offs.set1 (i := p.toNat) (x := q.2) (x' := off) (v := .bool off) (j := 0) (by rw [List.getElem?_map, hpq]; rfl) (by decide) (by simp [Enc.boolE])
  cases hg
  have e : p.toNat * Enc.boolE.sz + 0 = p.toNat := by simp [Enc.boolE]
  rw [e] at hR hO hU
  refine ⟨hR, ?_⟩
  rintro w2 rfl
  have hmap : (v.setP p (q.1, off)).parts.map (·.2) = (v.parts.map (·.2)).set p.toNat off := by simp [SrcV.setP, List.map_set]
  refine ⟨⟨x, ⟨h.row.upd hU (fun e => h.row.own_ne h.offs d2 ⟨_, rfl, e.symm⟩), h.heads.upd hU (fun b hb e => own_ne h.heads h.offs d5 b hb ⟨_, rfl, e.symm⟩), by rw [hmap]; exact hO, by simp [SrcV.setP, h.len], fun i s hs => ?_, h.apart, h.list.upd hU (fun b hb e => own_ne h.list h.offs (Ne.symm d9) b hb ⟨_, rfl, e.symm⟩), h.qB, hf, hk⟩, rfl, hU.mono fun b _ hb => .inr (.inr (.inl hb)), fun b hb => .inl hb⟩⟩
  obtain ⟨qi, h1, h3⟩ := h.logs i s hs
  have h3' := h3.upd hU fun b hb' e => own_ne h.offs h3 d8 b ⟨_, rfl, e.symm⟩ hb'
  by_cases hi : p.toNat = i
  · subst hi
    rw [hpq] at h1; cases h1
    exact ⟨(q.1, off), by simp [SrcV.setP, List.getElem?_set]; omega, h3'⟩
  · exact ⟨qi, by simp only [SrcV.setP]; rw [List.getElem?_set, if_neg hi]; exact h1, h3'⟩
end
theorem keysOk_setOff {v : SrcV} {p : Int} {q : List RecV × Bool} (hq : v.getP p = some q) (h : v.KeysOk) (off : Bool) : (v.setP p (q.1, off)).KeysOk := by
  obtain ⟨h0, h1, h2⟩ := getP_some hq
  intro k
  show k ∈ v.keys ↔ _
  rw [h k]
  constructor
  · rintro ⟨q', hq', r, hr, he⟩
    obtain ⟨j, hj⟩ := List.getElem?_of_mem hq'
    by_cases e : j = p.toNat
    · subst e
      rw [h2] at hj; cases hj
      obtain ⟨q'', hq'', e2⟩ := (set_mem_iff (x := (q.1, off)) (y := (q.1, off)) h2).2 (.inl rfl)
      subst e2
      exact ⟨_, hq'', r, hr, he⟩
    · obtain ⟨q'', hq'', e2⟩ := (set_mem_iff (x := (q.1, off)) (y := q') h2).2 (.inr ⟨j, e, hj⟩)
      subst e2
      exact ⟨_, hq'', r, hr, he⟩
  · rintro ⟨q', hq', r, hr, he⟩
    rcases (set_mem_iff (x := (q.1, off)) (y := q') h2).1 ⟨q', hq', rfl⟩ with rfl | ⟨j, -, hj⟩
    · exact ⟨q, List.mem_of_getElem? h2, r, hr, he⟩
    · exact ⟨q', List.mem_of_getElem? hj, r, hr, he⟩
theorem switch_keysOk {v : SrcV} {p : Int} {on : Bool} (h : v.KeysOk) : (v.switch p on).1.KeysOk := by
  unfold SrcV.switch
  split
  · exact h
  · rename_i q hq
    exact keysOk_setOff hq h _
end Go.Sx
