/- A batch's table is sound, and no longer than the records. Conditions: none. -/
import Derived.Test.YtoljpkdokpinhaaSxVe
namespace Go.Sx
set_option linter.unusedSimpArgs false
set_option linter.unusedVariables false

theorem join_has' {kind : Int} {a b : ValV} (h : a.has = true ∨ b.has = true) : (joinV kind a b).has = true := by
  unfold joinV
  split
  · rename_i h1
    rcases h with h | h
    · rw [h1] at h; cases h
    · exact h
  split
  · rename_i h1 h2
    rcases h with h | h
    · exact h
    · rw [h2] at h; cases h
  split
  · exact ofV_has (by decide)
  split
  · exact ofV_has (by decide)
  · rfl
theorem fold_has {kind : Int} : ∀ (vs : List ValV) (a : ValV), (a.has = true ∨ vs ≠ []) → (∀ v ∈ vs, v.has = true) → (vs.foldl (joinV kind) a).has = true
  | [], a, h, _ => h.resolve_right (fun h => h rfl)
  | v :: vs, a, _, hv => fold_has vs _ (.inl (join_has' (.inr (hv v (by simp))))) fun x hx => hv x (by simp [hx])
theorem kept_has {list : List OpV} {kind : Int} {rs : List RecV} (hk : knownB kind = true) : ∀ p ∈ keptL list kind rs, p.2.has = true := by
  intro p hp
  unfold keptL at hp
  obtain ⟨r, hr, he⟩ := List.mem_filterMap.1 hp
  split at he
  · cases he; exact ofV_has hk
  · cases he
theorem vals_mem {ks : List (Int × ValV)} {k : Int} {v : ValV} (h : v ∈ valsOf ks k) : ∃ p ∈ ks, p.1 = k ∧ p.2 = v := by
  unfold valsOf at h
  obtain ⟨p, hp, rfl⟩ := List.mem_map.1 h
  rw [List.mem_filter] at hp
  exact ⟨p, hp.1, by simpa using hp.2, rfl⟩
theorem table_sound {list : List OpV} {kind : Int} {rs : List RecV} (hk : knownB kind = true) (hl : ∀ o ∈ list, o.Fits) (hf : ∀ x ∈ rs, x.Fits) : soundB (tableT (bAll list kind rs).1) = true := by
  obtain ⟨h1, h2⟩ := batch_get (kind := kind) hk hl hf
  have hS := table_same h1.1
  unfold soundB
  rw [decide_eq_true_eq]
  refine ⟨fun x hx => ?_, hS.rise⟩
  have hg := (hS.mem x.key x.val).1 hx
  rw [h2 x.key] at hg
  split at hg
  · cases hg
  · rename_i hne
    have he := Option.some.inj hg
    have : (sumV kind (valsOf (keptL list kind rs) x.key)).has = true := fold_has _ _ (.inr hne) fun v hv => by
      obtain ⟨p, hp, -, rfl⟩ := vals_mem hv
      exact kept_has hk p hp
    rw [he] at this
    exact this
theorem setM_lenV {m : Tab} {k : Int} {v : ValV} : (setM m k v).length ≤ m.length + 1 := by unfold setM; split <;> simp
theorem put_len {kind : Int} : ∀ (ks : List (Int × ValV)) (m : Tab), (ks.foldl (fun m p => putT kind m p.1 p.2) m).length ≤ m.length + ks.length
  | [], m => by simp
  | p :: ks, m => by
    have h1 := put_len (kind := kind) ks (putT kind m p.1 p.2)
    have h2 : (putT kind m p.1 p.2).length ≤ m.length + 1 := setM_lenV
    simp only [List.foldl_cons, List.length_cons] at h1 ⊢
    omega
theorem batch_len (list : List OpV) (kind : Int) (rs : List RecV) : (bAll list kind rs).1.length ≤ rs.length := by
  unfold bAll
  rw [bAll_tab]
  have h1 := put_len (kind := kind) (keptL list kind rs) ([] : Tab)
  have h2 : (keptL list kind rs).length ≤ rs.length := List.length_filterMap_le _ _
  simp only [List.length_nil] at h1
  show ((keptL list kind rs).foldl (fun m p => putT kind m p.1 p.2) []).length ≤ rs.length
  omega
theorem tableT_lenV (m : Tab) : (tableT m).length = m.length := by unfold tableT; rw [List.length_map, (sortL_perm _).length_eq, List.length_map]
/-- two batches whose parts are the same, key by key, are one table -/
theorem table_eq {list : List OpV} {kind : Int} {rs rs' : List RecV} (hk : knownB kind = true) (hl : ∀ o ∈ list, o.Fits) (hf : ∀ x ∈ rs, x.Fits) (hf' : ∀ x ∈ rs', x.Fits) (h : (keptL list kind rs).Perm (keptL list kind rs')) : tableT (bAll list kind rs).1 = tableT (bAll list kind rs').1 := by
  obtain ⟨a1, a2⟩ := batch_get (kind := kind) hk hl hf
  obtain ⟨b1, b2⟩ := batch_get (kind := kind) hk hl hf'
  refine Same.uniq (table_same a1.1) (table_same b1.1) fun k => ?_
  rw [a2 k, b2 k]
  have hp : (valsOf (keptL list kind rs) k).Perm (valsOf (keptL list kind rs') k) := (h.filter _).map _
  have hform : ∀ v ∈ valsOf (keptL list kind rs) k, Form kind v := fun v hv => by
    obtain ⟨p, hp, -, rfl⟩ := vals_mem hv
    exact kept_form hl hf p hp
  by_cases he : valsOf (keptL list kind rs) k = []
  · have he' : valsOf (keptL list kind rs') k = [] := by rw [he] at hp; exact hp.symm.eq_nil
    rw [if_pos he, if_pos he']
  · have he' : valsOf (keptL list kind rs') k ≠ [] := fun e => he (by rw [e] at hp; exact hp.eq_nil)
    rw [if_neg he, if_neg he']
    congr 1
    exact sum_perm hk hp val0 Form.zero hform
theorem kept_perm {list : List OpV} {kind : Int} {rs rs' : List RecV} (h : rs.Perm rs') : (keptL list kind rs).Perm (keptL list kind rs') := h.filterMap _
theorem trap_perm {list : List OpV} {rs rs' : List RecV} (h : rs.Perm rs') : trapN list rs = trapN list rs' := by unfold trapN; exact (h.filter _).length_eq
end Go.Sx
