/- Nets of messages in memory. Conditions: none. -/
import Derived.Test.YtcpkneemhfnanaaGreatSxR
import Derived.Test.YtcpkneemhfnanaaGreatSxZ
namespace Go.Sx
set_option linter.unusedSimpArgs false
set_option linter.unusedVariables false

/-- a message whose lists are rows of their own -/
structure MOwn (ti tu tp : TypeId) (w : World) (B : Nat) (x : Msg) : Prop where
  e : Own w B ti (Enc.int .i64) x.e.1 x.e.2.1 x.e.2.2 x.c.ends
  k : Own w B tu (Enc.int .u64) x.k.1 x.k.2.1 x.k.2.2 x.c.keys
  p : Own w B tp Enc.pair x.p.1 x.p.2.1 x.p.2.2 x.c.pairs

section
variable {ti tu tp : TypeId}
theorem MOwn.at {w : World} {B : Nat} {x : Msg} (h : MOwn ti tu tp w B x) : x.At w := ⟨h.e.reads, h.k.reads, h.p.reads⟩
theorem MOwn.grew {w w' : World} {B : Nat} {x : Msg} (h : MOwn ti tu tp w B x) (hg : Grew w w') : MOwn ti tu tp w' B x := ⟨h.e.grew hg, h.k.grew hg, h.p.grew hg⟩
theorem MOwn.base {w : World} {B B' : Nat} {x : Msg} (h : MOwn ti tu tp w B x) (hb : B' ≤ B) : MOwn ti tu tp w B' x := ⟨h.e.base hb, h.k.base hb, h.p.base hb⟩
theorem MOwn.upd {S : Nat → Prop} {w w' : World} {B : Nat} {x : Msg} (h : MOwn ti tu tp w B x) (hu : Upd S w w') (hn : ∀ b, x.Blk b → ¬ S b) : MOwn ti tu tp w' B x :=
  ⟨h.e.upd hu fun b hb => hn b (.inl hb), h.k.upd hu fun b hb => hn b (.inr (.inl hb)), h.p.upd hu fun b hb => hn b (.inr (.inr hb))⟩
theorem MOwn.blk {w : World} {B : Nat} {x : Msg} (h : MOwn ti tu tp w B x) {b : Nat} (hb : x.Blk b) : B ≤ b ∧ b < w.heap.size := by
  rcases hb with hb | hb | hb
  · exact h.e.blk hb
  · exact h.k.blk hb
  · exact h.p.blk hb
/-- what stands in an own row's block -/
theorem Own.obj {α : Type} {w : World} {B : Nat} {e : TypeId} {E : Enc α} {a : Option Addr} {n c : Nat} {l : List α} (h : Own w B e E a n c l) {b : Nat} (hb : Blk a b) : ∃ cur, w.heap[b]? = some (.cells cur e (0, 0)) := by
  rcases h.out with ⟨rfl, -⟩ | ⟨g, cur, rfl, -, hg, -⟩
  · exact absurd hb Blk.none
  · have := Blk.some.1 hb; simp only at this; subst this; exact ⟨cur, hg⟩
theorem MOwn.obj {w : World} {B : Nat} {x : Msg} (h : MOwn ti tu tp w B x) {b : Nat} (hb : x.Blk b) : ∃ cur t, (t = ti ∨ t = tu ∨ t = tp) ∧ w.heap[b]? = some (.cells cur t (0, 0)) := by
  rcases hb with hb | hb | hb
  · obtain ⟨cur, hc⟩ := h.e.obj hb; exact ⟨cur, ti, .inl rfl, hc⟩
  · obtain ⟨cur, hc⟩ := h.k.obj hb; exact ⟨cur, tu, .inr (.inl rfl), hc⟩
  · obtain ⟨cur, hc⟩ := h.p.obj hb; exact ⟨cur, tp, .inr (.inr rfl), hc⟩
/-- no two of them share a row -/
def Apart (L : List (Int × Msg)) : Prop := L.Pairwise fun x y => ∀ b, x.2.Blk b → ¬ y.2.Blk b
def Feet (L : List (Int × Msg)) (b : Nat) : Prop := ∃ x ∈ L, x.2.Blk b
/-- messages of a net -/
structure MsgsOk (ti tu tp : TypeId) (w : World) (B : Nat) (L : List (Int × Msg)) : Prop where
  own : ∀ x ∈ L, MOwn ti tu tp w B x.2
  ok : ∀ x ∈ L, soundMsg x.2.c = true ∧ x.2.c.Fits
  apart : Apart L
theorem MsgsOk.upd {S : Nat → Prop} {w w' : World} {B : Nat} {L : List (Int × Msg)} (h : MsgsOk ti tu tp w B L) (hu : Upd S w w') (hn : ∀ b, Feet L b → ¬ S b) : MsgsOk ti tu tp w' B L :=
  ⟨fun x hx => (h.own x hx).upd hu fun b hb => hn b ⟨x, hx, hb⟩, h.ok, h.apart⟩
theorem MsgsOk.grew {w w' : World} {B : Nat} {L : List (Int × Msg)} (h : MsgsOk ti tu tp w B L) (hg : Grew w w') : MsgsOk ti tu tp w' B L := ⟨fun x hx => (h.own x hx).grew hg, h.ok, h.apart⟩
theorem MsgsOk.blk {w : World} {B : Nat} {L : List (Int × Msg)} (h : MsgsOk ti tu tp w B L) {b : Nat} (hb : Feet L b) : B ≤ b ∧ b < w.heap.size := by
  obtain ⟨x, hx, hb⟩ := hb; exact (h.own x hx).blk hb
theorem MsgsOk.sub {w : World} {B : Nat} {L L' : List (Int × Msg)} (h : MsgsOk ti tu tp w B L) (hs : L'.Sublist L) : MsgsOk ti tu tp w B L' :=
  ⟨fun x hx => h.own x (hs.subset hx), fun x hx => h.ok x (hs.subset hx), h.apart.sublist hs⟩
theorem Feet.sub {L L' : List (Int × Msg)} (hs : L'.Sublist L) {b : Nat} (h : Feet L' b) : Feet L b := by obtain ⟨x, hx, hb⟩ := h; exact ⟨x, hs.subset hx, hb⟩
theorem Apart.of {L : List (Int × Msg)} (h : Apart L) {x y : Int × Msg} (hx : x ∈ L) (hy : y ∈ L) (hne : x.1 ≠ y.1) : ∀ b, x.2.Blk b → ¬ y.2.Blk b := by
  obtain ⟨i, hi⟩ := List.getElem?_of_mem hx
  obtain ⟨j, hj⟩ := List.getElem?_of_mem hy
  have h1 := List.pairwise_iff_getElem.1 h
  have hil := (List.getElem?_eq_some_iff.1 hi).1
  have hjl := (List.getElem?_eq_some_iff.1 hj).1
  rw [List.getElem?_eq_getElem hil] at hi; rw [List.getElem?_eq_getElem hjl] at hj
  have ei := Option.some.inj hi; have ej := Option.some.inj hj
  intro b hb hb'
  rcases Nat.lt_trichotomy i j with hlt | rfl | hlt
  · have := h1 i j hil hjl hlt b; rw [ei, ej] at this; exact this hb hb'
  · exact hne (by rw [← ei, ← ej])
  · have := h1 j i hjl hil hlt b; rw [ei, ej] at this; exact this hb' hb
theorem Feet.del {L : List (Int × Msg)} (h : Apart L) {k : Int} {y : Msg} (hy : (k, y) ∈ L) {b : Nat} (hb : y.Blk b) : Feet L b ∧ ¬ Feet (L.filter fun p => !(p.1 == k)) b := by
  refine ⟨⟨_, hy, hb⟩, fun ⟨z, hz, hz'⟩ => ?_⟩
  have h1 := List.mem_filter.1 hz
  have hne : z.1 ≠ k := by simpa using h1.2
  exact h.of hy h1.1 (fun e => hne e.symm) b hb hz'

theorem getM_memN {α : Type} {m : List (Int × α)} {k : Int} {x : α} (h : getM m k = some x) : (k, x) ∈ m := by
  unfold getM at h
  cases hf : m.find? (fun p => p.1 == k) with
  | none => rw [hf] at h; cases h
  | some r =>
    rw [hf] at h; simp at h
    have h1 := List.mem_of_find?_eq_some hf
    have h2 := List.find?_some hf
    simp at h2
    subst h; subst h2; exact h1
theorem getM_none {α : Type} {m : List (Int × α)} {k : Int} (h : getM m k = none) : ∀ p ∈ m, p.1 ≠ k := by
  unfold getM at h
  intro p hp e
  have := List.find?_eq_none.1 (Option.map_eq_none_iff.1 h) p hp
  simp [e] at this
theorem setM_new {α : Type} {m : List (Int × α)} {k : Int} {x : α} (h : ∀ p ∈ m, p.1 ≠ k) : setM m k x = m ++ [(k, x)] := by
  rw [setM, if_neg]
  simp only [List.any_eq_true, not_exists, not_and]
  intro p hp; simpa using h p hp
/-- numbers rise, below the next one -/
def RiseN {α : Type} (m : List (Int × α)) (next : Int) : Prop := (m.map (·.1)).Pairwise (· < ·) ∧ ∀ x ∈ m, 0 ≤ x.1 ∧ x.1 < next
theorem RiseN.sub {α : Type} {m m' : List (Int × α)} {next : Int} (h : RiseN m next) (hs : m'.Sublist m) : RiseN m' next := ⟨h.1.sublist (hs.map _), fun x hx => h.2 x (hs.subset hx)⟩
theorem RiseN.nodup {α : Type} {m : List (Int × α)} {next : Int} (h : RiseN m next) : (m.map (·.1)).Nodup := h.1.imp fun hlt e => by omega
theorem RiseN.sorted {α : Type} {m : List (Int × α)} {next : Int} (h : RiseN m next) : sortL (m.map (·.1)) = m.map (·.1) :=
  List.Perm.eq_of_pairwise (le := (· ≤ ·)) (fun a b _ _ h1 h2 => Int.le_antisymm h1 h2) (sortL_sorted _) (h.1.imp fun hlt => Int.le_of_lt hlt) (sortL_perm _)
theorem RiseN.fresh {α : Type} {m : List (Int × α)} {next : Int} (h : RiseN m next) : ∀ p ∈ m, p.1 ≠ next := fun p hp e => by have := (h.2 p hp).2; omega
theorem RiseN.get {α : Type} {m : List (Int × α)} {next : Int} (h : RiseN m next) {i : Nat} {x : Int × α} (hi : m[i]? = some x) : getM m x.1 = some x.2 := by
  cases hg : getM m x.1 with
  | none => exact absurd rfl (getM_none hg x (List.mem_of_getElem? hi))
  | some y =>
    have hm := getM_memN hg
    obtain ⟨j, hj⟩ := List.getElem?_of_mem hm
    have h1 := List.pairwise_iff_getElem.1 h.1
    have hil := (List.getElem?_eq_some_iff.1 hi).1
    have hjl := (List.getElem?_eq_some_iff.1 hj).1
    rcases Nat.lt_trichotomy i j with hlt | rfl | hlt
    · have := h1 i j (by simpa using hil) (by simpa using hjl) hlt
      rw [List.getElem?_eq_getElem hil] at hi; rw [List.getElem?_eq_getElem hjl] at hj
      simp only [List.getElem_map] at this
      rw [Option.some.inj hi, Option.some.inj hj] at this; simp at this
    · rw [hi] at hj
      have h := congrArg Prod.snd (Option.some.inj hj)
      simp only at h; rw [← h]
    · have := h1 j i (by simpa using hjl) (by simpa using hil) hlt
      rw [List.getElem?_eq_getElem hil] at hi; rw [List.getElem?_eq_getElem hjl] at hj
      simp only [List.getElem_map] at this
      rw [Option.some.inj hi, Option.some.inj hj] at this; simp at this
end
end Go.Sx
