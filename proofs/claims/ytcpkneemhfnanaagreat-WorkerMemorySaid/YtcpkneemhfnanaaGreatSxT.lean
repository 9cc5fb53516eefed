/- Readers of bytes and what they read: printed and read again, cut, read and printed again. Conditions: none. -/
import Derived.Test.YtcpkneemhfnanaaGreatSxS
namespace Go.Sx
set_option linter.unusedSimpArgs false
set_option linter.unusedVariables false

/-- a reader and its printer: an error stays; what is printed is read; cut short it is refused; what is read was printed -/
structure Codec {α : Type} (S : RdS → α × RdS) (pr : α → List Int) (ok : α → Prop) : Prop where
  stays : ∀ s, s.2 ≠ 0 → (S s).2 = s
  fwd : ∀ v r, ok v → S (pr v ++ r, 0) = (v, (r, 0))
  cut : ∀ v k, ok v → k < (pr v).length → (S ((pr v).take k, 0)).2.2 = 3
  back : ∀ l, Bytes l → (S (l, 0)).2.2 = 0 → l = pr (S (l, 0)).1 ++ (S (l, 0)).2.1 ∧ ok (S (l, 0)).1

section
variable {α β : Type}
def bindS (S : RdS → α × RdS) (T : α → RdS → β × RdS) : RdS → β × RdS := fun s => T (S s).1 (S s).2
theorem Codec.bind {S : RdS → α × RdS} {prS : α → List Int} {okS : α → Prop} {T : α → RdS → β × RdS} {prT : α → β → List Int} {okT : α → β → Prop} {pr : β → List Int} {ok : β → Prop} (hS : Codec S prS okS)
    (hst : ∀ v s, s.2 ≠ 0 → (T v s).2 = s) (hT : ∀ v, okS v → Codec (T v) (prT v) (okT v)) (π : β → α) (h1 : ∀ y, ok y → okS (π y) ∧ okT (π y) y) (h2 : ∀ v y, okS v → okT v y → ok y ∧ π y = v)
    (hp : ∀ y, ok y → pr y = prS (π y) ++ prT (π y) y) : Codec (bindS S T) pr ok where
  stays s hs := by unfold bindS; rw [hst _ _ (by rw [hS.stays s hs]; exact hs), hS.stays s hs]
  fwd y r hy := by
    obtain ⟨a, b⟩ := h1 y hy
    unfold bindS
    rw [hp y hy, List.append_assoc, hS.fwd _ _ a]
    exact (hT _ a).fwd y r b
  cut y k hy hk := by
    obtain ⟨a, b⟩ := h1 y hy
    unfold bindS
    rw [hp y hy] at hk ⊢
    by_cases hlt : k < (prS (π y)).length
    · rw [List.take_append_of_le_length (Nat.le_of_lt hlt)]
      have h3 := hS.cut _ k a hlt
      have h0 : (S ((prS (π y)).take k, 0)).2.2 ≠ 0 := by rw [h3]; decide
      rw [hst _ _ h0]; exact h3
    · obtain ⟨j, rfl⟩ : ∃ j, k = (prS (π y)).length + j := ⟨k - (prS (π y)).length, by omega⟩
      rw [List.take_length_add_append, hS.fwd _ _ a]
      exact (hT _ a).cut y j b (by simp only [List.length_append] at hk; omega)
  back l hb h0 := by
    unfold bindS at h0 ⊢
    have hs0 : (S (l, 0)).2.2 = 0 := by
      apply Classical.byContradiction
      intro hne
      rw [hst _ _ hne] at h0; exact hne h0
    obtain ⟨e1, o1⟩ := hS.back l hb hs0
    have hb1 : Bytes (S (l, 0)).2.1 := fun c hc => hb c (by rw [e1]; simp [hc])
    have e2 : (S (l, 0)).2 = ((S (l, 0)).2.1, 0) := Prod.ext rfl hs0
    rw [e2] at h0 ⊢
    obtain ⟨e3, o3⟩ := (hT _ o1).back _ hb1 h0
    obtain ⟨o4, e4⟩ := h2 _ _ o1 o3
    refine ⟨?_, o4⟩
    rw [hp _ o4, e4, List.append_assoc, ← e3]; exact e1

def checkS (c : α → Bool) (e : Int) (S : RdS → α × RdS) : RdS → α × RdS := fun s => ((S s).1, if c (S s).1 = true then failS e (S s).2 else (S s).2)
theorem Codec.check {S : RdS → α × RdS} {pr : α → List Int} {ok : α → Prop} (h : Codec S pr ok) (c : α → Bool) {e : Int} (he : e ≠ 0) : Codec (checkS c e S) pr (fun v => ok v ∧ c v = false) where
  stays s hs := by
    unfold checkS
    have : (S s).2.2 ≠ 0 := by rw [h.stays s hs]; exact hs
    split
    · rw [failS_err _ this, h.stays s hs]
    · rw [h.stays s hs]
  fwd v r hv := by unfold checkS; rw [h.fwd v r hv.1]; simp [hv.2]
  cut v k hv hk := by
    have h3 := h.cut v k hv.1 hk
    unfold checkS
    split
    · rw [failS_err _ (by rw [h3]; decide)]; exact h3
    · exact h3
  back l hb h0 := by
    unfold checkS at h0 ⊢
    split at h0
    · exfalso
      unfold failS at h0
      split at h0
      · exact he h0
      · exact absurd h0 (by assumption)
    · rename_i hc
      rw [if_neg hc]
      obtain ⟨a, b⟩ := h.back l hb h0
      exact ⟨a, b, by simpa using hc⟩
theorem Codec.map {S : RdS → α × RdS} {pr : α → List Int} {ok : α → Prop} (h : Codec S pr ok) (f : α → β) (g : β → α) {ok' : β → Prop} {pr' : β → List Int} (hg : ∀ y, ok' y → ok (g y) ∧ f (g y) = y) (hf : ∀ x, ok x → ok' (f x) ∧ g (f x) = x) (hp : ∀ y, ok' y → pr' y = pr (g y)) :
    Codec (fun s => (f (S s).1, (S s).2)) pr' ok' where
  stays s hs := h.stays s hs
  fwd y r hy := by rw [hp y hy, h.fwd _ r (hg y hy).1]; simp [(hg y hy).2]
  cut y k hy hk := by rw [hp y hy] at hk ⊢; exact h.cut _ k (hg y hy).1 hk
  back l hb h0 := by
    obtain ⟨a, b⟩ := h.back l hb h0
    obtain ⟨c, d⟩ := hf _ b
    refine ⟨?_, c⟩
    simp only; rw [hp _ c, d]; exact a
end

/-! ### numbers -/
/-! ### words -/
/-! ### a cell -/
/-! ### buckets -/
end Go.Sx
