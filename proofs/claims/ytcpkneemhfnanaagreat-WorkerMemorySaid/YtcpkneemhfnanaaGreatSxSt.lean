import Derived.Test.YtcpkneemhfnanaaGreatSxFc
import Derived.Test.YtcpkneemhfnanaaGreatSxY
import Derived.Test.YtcpkneemhfnanaaGreatSxW
/- Sources of records in memory. Conditions: none. -/
namespace Go.Sx
set_option linter.unusedSimpArgs false
set_option linter.unusedVariables false

section
variable {α β : Type}
theorem Own.objC {w : World} {B : Nat} {e : TypeId} {E : Enc α} {a : Option Addr} {n c : Nat} {l : List α} (h : Own w B e E a n c l) {b : Nat} (hb : Blk a b) : ∃ cur, w.heap[b]? = some (.cells cur e (0, 0)) := by
  obtain ⟨d, rfl, rfl⟩ := hb
  rcases h.out with ⟨h, -⟩ | ⟨g, cur, hd, -, hg, -⟩
  · cases h
  · cases hd; exact ⟨cur, hg⟩
theorem own_ne {w : World} {B B' : Nat} {e e' : TypeId} {E : Enc α} {E' : Enc β} {a a' : Option Addr} {n c n' c' : Nat} {l : List α} {l' : List β} (h : Own w B e E a n c l) (h' : Own w B' e' E' a' n' c' l') (hne : e ≠ e') : ∀ b, Blk a b → ¬ Blk a' b := by
  intro b hb hb'
  obtain ⟨c1, h1⟩ := h.objC hb
  obtain ⟨c2, h2⟩ := h'.objC hb'
  rw [h1] at h2
  exact hne (Obj.cells.inj (Option.some.inj h2)).2.1
theorem Row.own_ne {w : World} {B : Nat} {g : Nat} {e e' : TypeId} {cs : List Value} {E : Enc α} {a : Option Addr} {n c : Nat} {l : List α} (h : Row w g e cs) (h' : Own w B e' E a n c l) (hne : e ≠ e') : ¬ Blk a g := by
  intro hb
  obtain ⟨c2, h2⟩ := h'.objC hb
  unfold Row at h
  rw [h] at h2
  exact hne (Obj.cells.inj (Option.some.inj h2)).2.1
theorem MapIs.own_ne {w : World} {B b : Nat} {q : IntKind} {F : β → Value} {m : List (Int × β)} {e : TypeId} {E : Enc α} {a : Option Addr} {n c : Nat} {l : List α} (h : MapIs w b q F m) (h' : Own w B e E a n c l) : ¬ Blk a b := by
  intro hb
  obtain ⟨c2, h2⟩ := h'.objC hb
  obtain ⟨es, ck, h1, -⟩ := h
  rw [h1] at h2; cases h2
theorem MapIs.row_ne {w : World} {b g : Nat} {q : IntKind} {F : β → Value} {m : List (Int × β)} {e : TypeId} {cs : List Value} (h : MapIs w b q F m) (h' : Row w g e cs) : g ≠ b := by
  rintro rfl
  obtain ⟨es, ck, h1, -⟩ := h
  unfold Row at h'
  rw [h1] at h'; cases h'
theorem Row.row_ne {w : World} {g g' : Nat} {e e' : TypeId} {cs cs' : List Value} (h : Row w g e cs) (h' : Row w g' e' cs') (hne : e ≠ e') : g ≠ g' := by
  rintro rfl
  unfold Row at h h'
  rw [h] at h'
  exact hne (Obj.cells.inj (Option.some.inj h')).2.1

/-- one cell of a thing of an owned row is written -/
theorem Own.set1 {w : World} {B : Nat} {e : TypeId} {E : Enc α} {a : Option Addr} {n c : Nat} {l : List α} (h : Own w B e E a n c l) {i j : Nat} {x x' : α} {v : Value} (hi : l[i]? = some x) (hj : j < E.sz) (hx : E.f x' = (E.f x).set j v) :
    ∃ g, a = some ⟨g, 0, none⟩ ∧ RoomAt w ⟨g, i * E.sz + j, none⟩ 0 [v] ∧ Own (setCells w ⟨g, i * E.sz + j, none⟩ 0 [v]) B e E a n c (l.set i x') ∧ Upd (fun b => b = g) w (setCells w ⟨g, i * E.sz + j, none⟩ 0 [v]) := by
  have hil : i < l.length := (List.getElem?_eq_some_iff.1 hi).1
  rcases h.row with ⟨-, rfl, -, -⟩ | ⟨g, cs, rfl, hB, hr, hn, hnc, hc, hl, ht⟩
  · simp at hil
  · have hle : i * E.sz + E.sz ≤ n * E.sz := by rw [← Nat.succ_mul]; exact Nat.mul_le_mul_right _ (by omega)
    have hle2 : n * E.sz ≤ c * E.sz := Nat.mul_le_mul_right _ hnc
    obtain ⟨h1, h2, h3⟩ := hr.set1 (o := i * E.sz + j) (by omega) v
    refine ⟨g, rfl, h1, Own.ofRow (by simp [hn]) hB h2 hnc hc (by simp [hl]) ?_, h3⟩
    apply List.ext_getElem?
    intro k
    rw [flat_set E l i x' hil, List.getElem?_take]
    have hflat : ∀ k, k < n * E.sz → cs[k]? = (l.flatMap E.f)[k]? := fun k hk => by rw [← ht, List.getElem?_take, if_pos hk]
    by_cases hk : k < n * E.sz
    · rw [if_pos hk, List.getElem?_set]
      by_cases hkj : i * E.sz + j = k
      · subst hkj
        rw [if_pos rfl, if_pos (by omega), if_pos (by omega), hx]
        simp only [show i * E.sz + j - i * E.sz = j from by omega, List.getElem?_set, if_true]
        rw [if_pos (by rw [E.len]; exact hj)]
      · rw [if_neg hkj]
        by_cases hin : i * E.sz ≤ k ∧ k < i * E.sz + E.sz
        · rw [if_pos hin, hx, List.getElem?_set, if_neg (by omega), hflat k hk]
          have := flat_get E l i (k - i * E.sz) x hi (by omega)
          rw [show i * E.sz + (k - i * E.sz) = k from by omega] at this
          exact this
        · rw [if_neg hin, hflat k hk]
    · rw [if_neg hk, if_neg (by omega)]
      rw [List.getElem?_eq_none (by rw [flat_len]; rw [← hn]; omega)]
end

theorem zero_runS {P : Program} {e : TypeId} {z : Value} (h : (P.info? e).map (·.zero) = some (some z)) : ∀ w, (zeroValue e).run P w = .ok z w := by
  intro w
  cases hi : P.info? e with
  | none => rw [hi] at h; cases h
  | some i =>
    rw [hi] at h
    simp at h
    simp [zeroValue, typeInfo, hi, h, Result.andThen]

/-- what a source is -/
structure SrcV where
  parts : List (List RecV × Bool)
  list : List OpV
  keys : List Int
deriving DecidableEq
def SrcV.getP (v : SrcV) (p : Int) : Option (List RecV × Bool) := if 0 ≤ p then v.parts[p.toNat]? else none
def SrcV.setP (v : SrcV) (p : Int) (q : List RecV × Bool) : SrcV := { v with parts := v.parts.set p.toNat q }
def SrcV.produce (v : SrcV) (p : Int) (r : RecV) : SrcV × Int :=
  match v.getP p with
  | none => (v, 60)
  | some q => if 256 ≤ q.1.length then (v, 61) else
    if (keyOfB v.list r).2 then
      if (keyOfB v.list r).1 ∈ v.keys then (v.setP p (q.1 ++ [r], q.2), 0)
      else if 64 ≤ v.keys.length then (v, 62) else ({ v.setP p (q.1 ++ [r], q.2) with keys := v.keys ++ [(keyOfB v.list r).1] }, 0)
    else (v.setP p (q.1 ++ [r], q.2), 0)
def SrcV.switch (v : SrcV) (p : Int) (on : Bool) : SrcV × Int := match v.getP p with | none => (v, 60) | some q => (v.setP p (q.1, !on), 0)
def SrcV.up (v : SrcV) (p : Int) : Bool := match v.getP p with | none => false | some q => !q.2
def SrcV.len (v : SrcV) (p : Int) : Int := match v.getP p with | none => 0 | some q => q.1.length
def SrcV.log (v : SrcV) (p : Int) : List RecV := match v.getP p with | none => [] | some q => q.1
def SrcV.read (v : SrcV) (p fr most : Int) : List RecV × Int := match v.getP p with
  | none => ([], 60)
  | some q => if fr < 0 ∨ (q.1.length : Int) < fr ∨ most < 0 then ([], 1) else if q.2 then ([], 63) else ((q.1.drop fr.toNat).take most.toNat, 0)
structure SrcV.Fits (v : SrcV) : Prop where
  list : ∀ o ∈ v.list, o.Fits
  check : checkB v.list = true
  parts : 1 ≤ v.parts.length ∧ v.parts.length ≤ 4
  logs : ∀ q ∈ v.parts, q.1.length ≤ 256 ∧ ∀ r ∈ q.1, r.Fits
  keys : v.keys.Nodup ∧ v.keys.length ≤ 64 ∧ ∀ k ∈ v.keys, 0 ≤ k ∧ k < u64m
def srcNew (n : Nat) (l : List OpV) : SrcV := ⟨List.replicate n ([], false), l, []⟩

theorem getP_some {v : SrcV} {p : Int} {q : List RecV × Bool} (h : v.getP p = some q) : 0 ≤ p ∧ p < v.parts.length ∧ v.parts[p.toNat]? = some q := by
  unfold SrcV.getP at h
  split at h
  · rename_i h0
    have := (List.getElem?_eq_some_iff.1 h).1
    exact ⟨h0, by omega, h⟩
  · cases h
theorem getP_none {v : SrcV} {p : Int} (h : v.getP p = none) : p < 0 ∨ (v.parts.length : Int) ≤ p := by
  unfold SrcV.getP at h
  split at h
  · have := List.getElem?_eq_none_iff.1 h
    omega
  · omega
theorem mem_set {α : Type} {l : List α} {i : Nat} {x y : α} (h : y ∈ l.set i x) : y = x ∨ y ∈ l := by
  rcases List.mem_or_eq_of_mem_set h with h | h
  · exact .inr h
  · exact .inl h
theorem setP_fits {v : SrcV} {p : Int} {q : List RecV × Bool} (h : v.Fits) (hq : q.1.length ≤ 256 ∧ ∀ r ∈ q.1, r.Fits) : (v.setP p q).Fits :=
  ⟨h.list, h.check, by simpa [SrcV.setP] using h.parts, fun x hx => by
    rcases mem_set hx with rfl | hx
    · exact hq
    · exact h.logs x hx, h.keys⟩
theorem keyOf_bound {l : List OpV} {r : RecV} (hl : ∀ o ∈ l, o.Fits) (hr : r.Fits) : 0 ≤ (keyOfB l r).1 ∧ (keyOfB l r).1 < u64m := (runB_fits hl hr).1
/-! ### in memory -/
def Enc.part : Enc ((Option Addr × Nat × Nat) × Bool) := ⟨2, fun s => [.slice s.1.1 s.1.2.1 s.1.2.2, .bool s.2], fun _ => rfl, by decide, fun x v h => by simp at h; rcases h with rfl | rfl <;> rfl⟩
structure SrcX where
  p : Nat
  pb : Nat
  mb : Nat
  pc : Nat
  la : Option Addr × Nat × Nat
  ps : List ((Option Addr × Nat × Nat) × Bool)
def unitF : Unit → Value := fun _ => .agg #[]
def SrcX.Foot (x : SrcX) (b : Nat) : Prop := b = x.p ∨ b = x.pb ∨ b = x.mb ∨ Blk x.la.1 b ∨ ∃ s ∈ x.ps, Blk s.1.1 b
structure SrcAt (tS tP tR tO : TypeId) (w : World) (B : Nat) (x : SrcX) (v : SrcV) : Prop where
  row : Row w x.p tS [.slice (some ⟨x.pb, 0, none⟩) x.ps.length x.pc, .slice x.la.1 x.la.2.1 x.la.2.2, .map (some x.mb)]
  parts : Own w B tP Enc.part (some ⟨x.pb, 0, none⟩) x.ps.length x.pc x.ps
  len : x.ps.length = v.parts.length
  logs : ∀ (i : Nat) s, x.ps[i]? = some s → ∃ q, v.parts[i]? = some q ∧ s.2 = q.2 ∧ Own w B tR Enc.rcd s.1.1 s.1.2.1 s.1.2.2 q.1
  apart : ∀ (i j : Nat) s t, i ≠ j → x.ps[i]? = some s → x.ps[j]? = some t → ∀ b, Blk s.1.1 b → ¬ Blk t.1.1 b
  list : Own w B tO Enc.op3 x.la.1 x.la.2.1 x.la.2.2 v.list
  map : MapIs w x.mb .u64 unitF (v.keys.map fun k => (k, ()))
  pB : B ≤ x.p
  mB : B ≤ x.mb
  fits : v.Fits
def SrcD (tS tP tR tO : TypeId) : Prop := tS ≠ tP ∧ tS ≠ tR ∧ tS ≠ tO ∧ tP ≠ tR ∧ tP ≠ tO ∧ tR ≠ tO
section
variable {tS tP tR tO : TypeId}
theorem SrcAt.foot {w : World} {B : Nat} {x : SrcX} {v : SrcV} (h : SrcAt tS tP tR tO w B x v) {b : Nat} (hb : x.Foot b) : B ≤ b ∧ b < w.heap.size := by
  rcases hb with rfl | rfl | rfl | hb | ⟨s, hs, hb⟩
  · exact ⟨h.pB, h.row.lt⟩
  · exact h.parts.blk (b := x.pb) ⟨_, rfl, rfl⟩
  · exact ⟨h.mB, h.map.lt⟩
  · exact h.list.blk hb
  · obtain ⟨i, hi⟩ := List.getElem?_of_mem hs
    obtain ⟨q, -, -, ho⟩ := h.logs i s hi
    exact ho.blk hb
theorem SrcAt.upd {S : Nat → Prop} {w w' : World} {B : Nat} {x : SrcX} {v : SrcV} (h : SrcAt tS tP tR tO w B x v) (hu : Upd S w w') (hn : ∀ b, x.Foot b → ¬ S b) : SrcAt tS tP tR tO w' B x v :=
  ⟨h.row.upd hu (hn _ (.inl rfl)), h.parts.upd hu fun b hb => hn b (by obtain ⟨d, hd, rfl⟩ := hb; cases hd; exact .inr (.inl rfl)), h.len, fun i s hs => by
    obtain ⟨q, h1, h2, h3⟩ := h.logs i s hs
    exact ⟨q, h1, h2, h3.upd hu fun b hb => hn b (.inr (.inr (.inr (.inr ⟨s, List.mem_of_getElem? hs, hb⟩))))⟩, h.apart, h.list.upd hu fun b hb => hn b (.inr (.inr (.inr (.inl hb)))), h.map.upd hu (hn _ (.inr (.inr (.inl rfl)))), h.pB, h.mB, h.fits⟩
theorem SrcAt.grew {w w' : World} {B : Nat} {x : SrcX} {v : SrcV} (h : SrcAt tS tP tR tO w B x v) (hg : Grew w w') : SrcAt tS tP tR tO w' B x v := h.upd (hg.upd (S := fun _ => False)) fun _ _ h => h

/-- a source that went on -/
structure SrcMoves (tS tP tR tO : TypeId) (w : World) (B : Nat) (x : SrcX) (w' : World) (v' : SrcV) : Prop where
  out : ∃ x', SrcAt tS tP tR tO w' B x' v' ∧ x'.p = x.p ∧ Upd x.Foot w w' ∧ ∀ b, x'.Foot b → x.Foot b ∨ w.heap.size ≤ b
theorem SrcMoves.grew {w w' : World} {B : Nat} {x : SrcX} {v : SrcV} (h : SrcAt tS tP tR tO w B x v) (hg : Grew w w') : SrcMoves tS tP tR tO w B x w' v := ⟨⟨x, h.grew hg, rfl, hg.upd, fun _ hb => .inl hb⟩⟩

theorem SrcAt.part {w : World} {B : Nat} {x : SrcX} {v : SrcV} (h : SrcAt tS tP tR tO w B x v) {p : Int} {q : List RecV × Bool} (hq : v.getP p = some q) :
    ∃ s, x.ps[p.toNat]? = some s ∧ s.2 = q.2 ∧ Own w B tR Enc.rcd s.1.1 s.1.2.1 s.1.2.2 q.1 ∧ w.cell? ⟨x.pb, p.toNat * 2, none⟩ = some (.slice s.1.1 s.1.2.1 s.1.2.2) ∧ w.cell? ⟨x.pb, p.toNat * 2 + 1, none⟩ = some (.bool s.2) := by
  obtain ⟨h0, h1, h2⟩ := getP_some hq
  have hlt : p.toNat < x.ps.length := by rw [h.len]; omega
  obtain ⟨s, hs⟩ : ∃ s, x.ps[p.toNat]? = some s := ⟨_, List.getElem?_eq_getElem hlt⟩
  obtain ⟨q', h3, h4, h5⟩ := h.logs _ s hs
  rw [h2] at h3; cases h3
  obtain ⟨d, s', hd, hs', hc⟩ := h.parts.reads.at0 hlt
  rw [hs] at hs'; cases hs'
  cases hd
  refine ⟨s, hs, h4, h5, ?_, ?_⟩
  · have := cellsAt_get hc 0 _ rfl
    simpa [add_mk, Enc.part] using this
  · have := cellsAt_get hc 1 _ rfl
    simpa [add_mk, Enc.part] using this

/-- a partition's head is written: the log's or the switch -/
theorem SrcAt.setPart {w w1 : World} {B : Nat} {x : SrcX} {v : SrcV} (h : SrcAt tS tP tR tO w B x v) (hD : SrcD tS tP tR tO) {p : Int} {q : List RecV × Bool} (hq : v.getP p = some q) {s : (Option Addr × Nat × Nat) × Bool} (hs : x.ps[p.toNat]? = some s)
    {a' : Option Addr} {n' c' : Nat} {log' : List RecV} {off' : Bool} (ho : Own w1 B tR Enc.rcd a' n' c' log') (hu : Upd (Blk s.1.1) w w1) (hb : ∀ b, Blk a' b → Blk s.1.1 b ∨ w.heap.size ≤ b) (hf : log'.length ≤ 256 ∧ ∀ r ∈ log', r.Fits)
    {j : Nat} {val : Value} (hj : j < 2) (hx : Enc.part.f ((a', n', c'), off') = (Enc.part.f s).set j val) :
    RoomAt w1 ⟨x.pb, p.toNat * 2 + j, none⟩ 0 [val] ∧ ∀ w2, w2 = setCells w1 ⟨x.pb, p.toNat * 2 + j, none⟩ 0 [val] → SrcMoves tS tP tR tO w B x w2 (v.setP p (log', off')) := by
  obtain ⟨d1, d2, d3, d4, d5, d6⟩ := hD
  obtain ⟨q0, hq0, -, ho0⟩ := h.logs _ s hs
  have hsm := List.mem_of_getElem? hs
  have hpb : ∀ b, Blk (some (⟨x.pb, 0, none⟩ : Addr)) b → ¬ Blk s.1.1 b := own_ne h.parts ho0 d4
  have hP1 := h.parts.upd hu hpb
  obtain ⟨g, hg, hR, hO, hU⟩ := hP1.set1 hs hj hx
  cases hg
  refine ⟨hR, ?_⟩
  rintro w2 rfl
  have hU2 : Upd (fun b => Blk s.1.1 b ∨ b = x.pb) w (setCells w1 ⟨x.pb, p.toNat * Enc.part.sz + j, none⟩ 0 [val]) := (hu.mono fun b _ hb => .inl hb).trans (hU.mono fun b _ hb => .inr hb)
  have hil : p.toNat < x.ps.length := (List.getElem?_eq_some_iff.1 hs).1
  have hfoot : ∀ b, (Blk s.1.1 b ∨ b = x.pb) → x.Foot b := fun b hb => hb.elim (fun h => .inr (.inr (.inr (.inr ⟨s, hsm, h⟩)))) (fun h => .inr (.inl h))
  have hnb : ∀ {b : Nat}, b < w.heap.size → ¬ Blk s.1.1 b → ¬ Blk a' b := fun hlt hn hb' => (hb _ hb').elim hn (fun h => by omega)
  have hrow : ¬ (Blk s.1.1 x.p ∨ x.p = x.pb) := fun hh => hh.elim (h.row.own_ne ho0 d2) (fun e => h.row.own_ne h.parts d1 ⟨_, rfl, e.symm⟩)
  have hmap : ¬ (Blk s.1.1 x.mb ∨ x.mb = x.pb) := fun hh => hh.elim (h.map.own_ne ho0) (fun e => h.map.own_ne h.parts ⟨_, rfl, e.symm⟩)
  have hlist : ∀ b, Blk x.la.1 b → ¬ (Blk s.1.1 b ∨ b = x.pb) := fun b hb hh => hh.elim (own_ne h.list ho0 (Ne.symm d6) b hb) (fun e => own_ne h.list h.parts (Ne.symm d5) b hb ⟨_, rfl, e.symm⟩)
  have hset : ∀ (i : Nat) t, (x.ps.set p.toNat ((a', n', c'), off'))[i]? = some t → (i = p.toNat ∧ t = ((a', n', c'), off')) ∨ (i ≠ p.toNat ∧ x.ps[i]? = some t) := by
    intro i t ht
    rw [List.getElem?_set] at ht
    by_cases hi : p.toNat = i
    · rw [if_pos hi, if_pos (by omega)] at ht
      cases ht; exact .inl ⟨hi.symm, rfl⟩
    · rw [if_neg hi] at ht; exact .inr ⟨fun e => hi e.symm, ht⟩
  refine ⟨⟨{ x with ps := x.ps.set p.toNat ((a', n', c'), off') }, ⟨?_, ?_, by simp [SrcV.setP, h.len], fun i t ht => ?_, fun i k t u hik ht hu' b hbt hbu => ?_, ?_, ?_, h.pB, h.mB, setP_fits h.fits hf⟩, rfl, hU2.mono fun b _ hb => hfoot b hb, fun b hb' => ?_⟩⟩
  · have := h.row.upd hU2 hrow
    show Row _ x.p tS [.slice (some ⟨x.pb, 0, none⟩) (x.ps.set p.toNat ((a', n', c'), off')).length x.pc, .slice x.la.1 x.la.2.1 x.la.2.2, .map (some x.mb)]
    rw [List.length_set]; exact this
  · show Own _ B tP Enc.part (some ⟨x.pb, 0, none⟩) (x.ps.set p.toNat ((a', n', c'), off')).length x.pc (x.ps.set p.toNat ((a', n', c'), off'))
    rw [List.length_set]; exact hO
  · rcases hset i t ht with ⟨rfl, rfl⟩ | ⟨hi, ht⟩
    · refine ⟨(log', off'), ?_, rfl, ho.upd hU fun b hb' e => ?_⟩
      · show (v.parts.set p.toNat (log', off'))[p.toNat]? = _
        rw [List.getElem?_set, if_pos rfl, if_pos (by rw [← h.len]; exact hil)]
      · subst e
        have hlt : x.pb < w.heap.size := (h.foot (.inr (.inl rfl))).2
        exact hnb hlt (hpb _ ⟨_, rfl, rfl⟩) hb'
    · obtain ⟨qi, h1, h2, h3⟩ := h.logs i t ht
      refine ⟨qi, ?_, h2, h3.upd hU2 fun b hb' hh => ?_⟩
      · show (v.parts.set p.toNat (log', off'))[i]? = _
        rw [List.getElem?_set, if_neg (fun e => hi e.symm)]; exact h1
      · rcases hh with hh | rfl
        · exact h.apart i p.toNat t s hi ht hs b hb' hh
        · exact own_ne h.parts h3 d4 _ ⟨_, rfl, rfl⟩ hb'
  · rcases hset i t ht with ⟨rfl, rfl⟩ | ⟨hi, ht⟩
    · rcases hset k u hu' with ⟨rfl, -⟩ | ⟨hk, hu'⟩
      · exact hik rfl
      · obtain ⟨qi, -, -, h3⟩ := h.logs k u hu'
        rcases hb b hbt with hh | hh
        · exact h.apart k p.toNat u s hk hu' hs b hbu hh
        · have := (h3.blk hbu).2; omega
    · rcases hset k u hu' with ⟨rfl, rfl⟩ | ⟨hk, hu'⟩
      · obtain ⟨qi, -, -, h3⟩ := h.logs i t ht
        rcases hb b hbu with hh | hh
        · exact h.apart i p.toNat t s hi ht hs b hbt hh
        · have := (h3.blk hbt).2; omega
      · exact h.apart i k t u hik ht hu' b hbt hbu
  · exact h.list.upd hU2 hlist
  · exact h.map.upd hU2 hmap
  · rcases hb' with h' | h' | h' | h' | ⟨t, ht, h'⟩
    · exact .inl (.inl h')
    · exact .inl (.inr (.inl h'))
    · exact .inl (.inr (.inr (.inl h')))
    · exact .inl (.inr (.inr (.inr (.inl h'))))
    · rcases mem_set ht with rfl | ht
      · exact (hb b h').imp (fun h => .inr (.inr (.inr (.inr ⟨s, hsm, h⟩)))) id
      · exact .inl (.inr (.inr (.inr (.inr ⟨t, ht, h'⟩))))
end
end Go.Sx
/- What a row of records makes of a source. Conditions: none. -/
namespace Go.Sx
set_option linter.unusedSimpArgs false
set_option linter.unusedVariables false

def Enc.boolE : Enc Bool := ⟨1, fun b => [.bool b], fun _ => rfl, by decide, fun x v h => by simp at h; subst h; rfl⟩
structure ItemV where
  p : Int
  r : RecV
def Enc.item : Enc ItemV := ⟨3, fun x => [.int .i64 x.p, .int .u64 x.r.key, .float .f64 x.r.val], fun _ => rfl, by decide, fun x v h => by simp at h; rcases h with rfl | rfl | rfl <;> rfl⟩
def ItemV.Fits (x : ItemV) : Prop := (-9223372036854775808 ≤ x.p ∧ x.p < 9223372036854775808) ∧ x.r.Fits
theorem produce_shape (v : SrcV) (p : Int) (r : RecV) : (v.produce p r).1.list = v.list ∧ (v.produce p r).1.parts.length = v.parts.length := by
  unfold SrcV.produce SrcV.setP
  split
  · exact ⟨rfl, rfl⟩
  · split
    · exact ⟨rfl, rfl⟩
    · split
      · split
        · exact ⟨rfl, by simp⟩
        · split
          · exact ⟨rfl, rfl⟩
          · exact ⟨rfl, by simp⟩
      · exact ⟨rfl, by simp⟩

/-- the keys are those that the pipeline gives to the records that it keeps -/
def SrcV.KeysOk (v : SrcV) : Prop := ∀ k, k ∈ v.keys ↔ ∃ q ∈ v.parts, ∃ r ∈ q.1, keyOfB v.list r = (k, true)
theorem sortL_strict {l : List Int} (h : l.Nodup) : (sortL l).Pairwise (· < ·) := by
  have h1 := sortL_sorted l
  have h2 : (sortL l).Nodup := (sortL_perm l).nodup_iff.2 h
  have h3 := List.Pairwise.and h1 h2
  exact h3.imp fun ⟨ha, hb⟩ => by omega
theorem sortL_mem {l : List Int} {k : Int} : k ∈ sortL l ↔ k ∈ l := (sortL_perm l).mem_iff
end Go.Sx
/- The reference's sources in memory, and rising rows of keys. Conditions: none. -/
namespace Go.Sx
set_option linter.unusedSimpArgs false
set_option linter.unusedVariables false

theorem strict_ext : ∀ {l r : List Int}, l.Pairwise (· < ·) → r.Pairwise (· < ·) → (∀ x, x ∈ l ↔ x ∈ r) → l = r
  | [], [], _, _, _ => rfl
  | [], y :: r, _, _, h => absurd ((h y).2 (by simp)) (by simp)
  | x :: l, [], _, _, h => absurd ((h x).1 (by simp)) (by simp)
  | x :: l, y :: r, hl, hr, h => by
    rw [List.pairwise_cons] at hl hr
    have hxy : x = y := by
      have h1 := (h x).1 (by simp)
      have h2 := (h y).2 (by simp)
      rcases List.mem_cons.1 h1 with e | h1
      · exact e
      · rcases List.mem_cons.1 h2 with e | h2
        · exact e.symm
        · have := hl.1 y h2; have := hr.1 x h1; omega
    subst hxy
    congr 1
    refine strict_ext hl.2 hr.2 fun z => ⟨fun hz => ?_, fun hz => ?_⟩
    · rcases List.mem_cons.1 ((h z).1 (by simp [hz])) with e | h'
      · subst e; exact absurd (hl.1 z hz) (by omega)
      · exact h'
    · rcases List.mem_cons.1 ((h z).2 (by simp [hz])) with e | h'
      · subst e; exact absurd (hr.1 z hz) (by omega)
      · exact h'
/-! ### in memory -/
structure RSrcX where
  q : Nat
  lb : Nat
  ob : Nat
  lc : Nat
  oc : Nat
  la : Option Addr × Nat × Nat
  hs : List (Option Addr × Nat × Nat)
def RSrcX.Foot (x : RSrcX) (b : Nat) : Prop := b = x.q ∨ b = x.lb ∨ b = x.ob ∨ Blk x.la.1 b ∨ ∃ s ∈ x.hs, Blk s.1 b
structure RSrcAt (tS tL tB tR tO : TypeId) (w : World) (B : Nat) (x : RSrcX) (v : SrcV) : Prop where
  row : Row w x.q tS [.slice (some ⟨x.lb, 0, none⟩) x.hs.length x.lc, .slice (some ⟨x.ob, 0, none⟩) x.hs.length x.oc, .slice x.la.1 x.la.2.1 x.la.2.2]
  heads : Own w B tL Enc.slice (some ⟨x.lb, 0, none⟩) x.hs.length x.lc x.hs
  offs : Own w B tB Enc.boolE (some ⟨x.ob, 0, none⟩) x.hs.length x.oc (v.parts.map (·.2))
  len : x.hs.length = v.parts.length
  logs : ∀ (i : Nat) s, x.hs[i]? = some s → ∃ q, v.parts[i]? = some q ∧ Own w B tR Enc.rcd s.1 s.2.1 s.2.2 q.1
  apart : ∀ (i j : Nat) s t, i ≠ j → x.hs[i]? = some s → x.hs[j]? = some t → ∀ b, Blk s.1 b → ¬ Blk t.1 b
  list : Own w B tO Enc.op3 x.la.1 x.la.2.1 x.la.2.2 v.list
  qB : B ≤ x.q
  fits : v.Fits
  keys : v.KeysOk
section
variable {tS tL tB tR tO : TypeId}
theorem RSrcAt.foot {w : World} {B : Nat} {x : RSrcX} {v : SrcV} (h : RSrcAt tS tL tB tR tO w B x v) {b : Nat} (hb : x.Foot b) : B ≤ b ∧ b < w.heap.size := by
  rcases hb with rfl | rfl | rfl | hb | ⟨s, hs, hb⟩
  · exact ⟨h.qB, h.row.lt⟩
  · exact h.heads.blk (b := x.lb) ⟨_, rfl, rfl⟩
  · exact h.offs.blk (b := x.ob) ⟨_, rfl, rfl⟩
  · exact h.list.blk hb
  · obtain ⟨i, hi⟩ := List.getElem?_of_mem hs
    obtain ⟨q, -, ho⟩ := h.logs i s hi
    exact ho.blk hb
theorem RSrcAt.upd {S : Nat → Prop} {w w' : World} {B : Nat} {x : RSrcX} {v : SrcV} (h : RSrcAt tS tL tB tR tO w B x v) (hu : Upd S w w') (hn : ∀ b, x.Foot b → ¬ S b) : RSrcAt tS tL tB tR tO w' B x v :=
  ⟨h.row.upd hu (hn _ (.inl rfl)), h.heads.upd hu (fun b hb => hn b (by obtain ⟨d, hd, rfl⟩ := hb; cases hd; exact .inr (.inl rfl))), h.offs.upd hu (fun b hb => hn b (by obtain ⟨d, hd, rfl⟩ := hb; cases hd; exact .inr (.inr (.inl rfl)))), h.len, fun i s hs => by
    obtain ⟨q, h1, h3⟩ := h.logs i s hs
    exact ⟨q, h1, h3.upd hu fun b hb => hn b (.inr (.inr (.inr (.inr ⟨s, List.mem_of_getElem? hs, hb⟩))))⟩, h.apart, h.list.upd hu fun b hb => hn b (.inr (.inr (.inr (.inl hb)))), h.qB, h.fits, h.keys⟩
theorem RSrcAt.grew {w w' : World} {B : Nat} {x : RSrcX} {v : SrcV} (h : RSrcAt tS tL tB tR tO w B x v) (hg : Grew w w') : RSrcAt tS tL tB tR tO w' B x v := h.upd (hg.upd (S := fun _ => False)) fun _ _ h => h
structure RSrcMoves (tS tL tB tR tO : TypeId) (w : World) (B : Nat) (x : RSrcX) (w' : World) (v' : SrcV) : Prop where
  out : ∃ x', RSrcAt tS tL tB tR tO w' B x' v' ∧ x'.q = x.q ∧ Upd x.Foot w w' ∧ ∀ b, x'.Foot b → x.Foot b ∨ w.heap.size ≤ b
theorem RSrcMoves.grew {w w' : World} {B : Nat} {x : RSrcX} {v : SrcV} (h : RSrcAt tS tL tB tR tO w B x v) (hg : Grew w w') : RSrcMoves tS tL tB tR tO w B x w' v := ⟨⟨x, h.grew hg, rfl, hg.upd, fun _ hb => .inl hb⟩⟩
theorem RSrcMoves.after {w0 w w' : World} {B : Nat} {x : RSrcX} {v' : SrcV} (h : RSrcMoves tS tL tB tR tO w B x w' v') (hg : Grew w0 w) : RSrcMoves tS tL tB tR tO w0 B x w' v' := by
  obtain ⟨x', h1, h2, h3, h4⟩ := h.out
  exact ⟨⟨x', h1, h2, hg.then_upd h3, fun b hb => (h4 b hb).imp id (Nat.le_trans hg.size)⟩⟩

theorem RSrcAt.part {w : World} {B : Nat} {x : RSrcX} {v : SrcV} (h : RSrcAt tS tL tB tR tO w B x v) {p : Int} {q : List RecV × Bool} (hq : v.getP p = some q) :
    ∃ s, x.hs[p.toNat]? = some s ∧ Own w B tR Enc.rcd s.1 s.2.1 s.2.2 q.1 ∧ w.cell? ⟨x.lb, p.toNat, none⟩ = some (.slice s.1 s.2.1 s.2.2) ∧ w.cell? ⟨x.ob, p.toNat, none⟩ = some (.bool q.2) ∧ p < x.hs.length := by
  obtain ⟨h0, h1, h2⟩ := getP_some hq
  have hlt : p.toNat < x.hs.length := by rw [h.len]; omega
  obtain ⟨s, hs⟩ : ∃ s, x.hs[p.toNat]? = some s := ⟨_, List.getElem?_eq_getElem hlt⟩
  obtain ⟨q', h3, h5⟩ := h.logs _ s hs
  rw [h2] at h3; cases h3
  obtain ⟨d, s', hd, hs', hc⟩ := h.heads.reads.at0 hlt
  rw [hs] at hs'; cases hs'
  cases hd
  obtain ⟨d2, b', hd2, hb', hc2⟩ := h.offs.reads.at0 hlt
  rw [List.getElem?_map, h2] at hb'
  cases hb'
  cases hd2
  refine ⟨s, hs, h5, ?_, ?_, by omega⟩
  · have := cellsAt_get hc 0 _ rfl
    simpa [add_mk, Enc.slice] using this
  · have := cellsAt_get hc2 0 _ rfl
    simpa [add_mk, Enc.boolE] using this

end
end Go.Sx
