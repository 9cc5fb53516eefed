/- What a row of records makes of a source. Conditions: none. -/
import Derived.Test.YtoljpkdokpinhaaGreatSxSr
import Derived.Test.YtoljpkdokpinhaaGreatSxW
namespace Go.Sx
set_option linter.unusedSimpArgs false
set_option linter.unusedVariables false

def Enc.boolE : Enc Bool := ⟨1, fun b => [.bool b], fun _ => rfl, by decide, fun x v h => by simp at h; subst h; rfl⟩
structure ItemV where
  p : Int
  r : RecV
def Enc.item : Enc ItemV := ⟨3, fun x => [.int .i64 x.p, .int .u64 x.r.key, .float .f64 x.r.val], fun _ => rfl, by decide, fun x v h => by simp at h; rcases h with rfl | rfl | rfl <;> rfl⟩
def ItemV.Fits (x : ItemV) : Prop := (-9223372036854775808 ≤ x.p ∧ x.p < 9223372036854775808) ∧ x.r.Fits
/-- the partition of an item -/
def itemP (x : ItemV) : Int := IntKind.i64.wrap (Int.tmod (IntKind.u64.wrap x.p) 2)
theorem itemP_bound (x : ItemV) : 0 ≤ itemP x ∧ itemP x < 2 := by
  unfold itemP
  have h := IntKind.wrap_u64 x.p
  have h1 : 0 ≤ IntKind.u64.wrap x.p := by rw [h]; omega
  have h2 := Int.tmod_nonneg 2 h1
  have h3 := Int.tmod_lt_of_pos (IntKind.u64.wrap x.p) (show (0 : Int) < 2 by decide)
  rw [IntKind.wrap_i64]; omega
def fillV (l : List OpV) (its : List ItemV) : SrcV := its.foldl (fun v x => (v.produce (itemP x) x.r).1) (srcNew 2 l)

theorem produce_shape (v : SrcV) (p : Int) (r : RecV) : (v.produce p r).1.list = v.list ∧ (v.produce p r).1.parts.length = v.parts.length := by
  unfold SrcV.produce SrcV.setP
  split
  · exact ⟨rfl, rfl⟩
  · split
    · exact ⟨rfl, rfl⟩
    · split
      · split
        · exact ⟨rfl, by simp⟩
        · split
          · exact ⟨rfl, rfl⟩
          · exact ⟨rfl, by simp⟩
      · exact ⟨rfl, by simp⟩

/-- the keys are those that the pipeline gives to the records that it keeps -/
def SrcV.KeysOk (v : SrcV) : Prop := ∀ k, k ∈ v.keys ↔ ∃ q ∈ v.parts, ∃ r ∈ q.1, keyOfB v.list r = (k, true)
theorem keysOk_new (n : Nat) (l : List OpV) : (srcNew n l).KeysOk := by
  intro k
  constructor
  · intro h; simp [srcNew] at h
  · rintro ⟨q, hq, r, hr, -⟩
    have := List.eq_of_mem_replicate hq
    subst this; simp at hr
theorem set_mem_iff {α : Type} {l : List α} {i : Nat} {x y : α} {z : α} (hi : l[i]? = some z) : (∃ q ∈ l.set i x, q = y) ↔ y = x ∨ ∃ j, j ≠ i ∧ l[j]? = some y := by
  constructor
  · rintro ⟨q, hq, rfl⟩
    obtain ⟨j, hj⟩ := List.getElem?_of_mem hq
    rw [List.getElem?_set] at hj
    by_cases h : i = j
    · rw [if_pos h] at hj
      split at hj
      · cases hj; exact .inl rfl
      · cases hj
    · rw [if_neg h] at hj; exact .inr ⟨j, fun e => h e.symm, hj⟩
  · have hlt := (List.getElem?_eq_some_iff.1 hi).1
    rintro (rfl | ⟨j, hj, h⟩)
    · exact ⟨y, List.mem_of_getElem? (i := i) (by rw [List.getElem?_set, if_pos rfl, if_pos hlt]), rfl⟩
    · exact ⟨y, List.mem_of_getElem? (i := j) (by rw [List.getElem?_set, if_neg (fun e => hj e.symm)]; exact h), rfl⟩
/-- a record more behind a partition: whose records there are -/
theorem setP_recs {v : SrcV} {p : Int} {q : List RecV × Bool} (hq : v.getP p = some q) (r : RecV) (P : RecV → Prop) : (∃ q' ∈ (v.setP p (q.1 ++ [r], q.2)).parts, ∃ x ∈ q'.1, P x) ↔ P r ∨ ∃ q' ∈ v.parts, ∃ x ∈ q'.1, P x := by
  obtain ⟨h0, h1, h2⟩ := getP_some hq
  constructor
  · rintro ⟨q', hq', x, hx, hP⟩
    have := (set_mem_iff (x := (q.1 ++ [r], q.2)) (y := q') h2).1 ⟨q', hq', rfl⟩
    rcases this with rfl | ⟨j, -, hj⟩
    · rcases List.mem_append.1 hx with hx | hx
      · exact .inr ⟨q, List.mem_of_getElem? h2, x, hx, hP⟩
      · simp at hx; subst hx; exact .inl hP
    · exact .inr ⟨q', List.mem_of_getElem? hj, x, hx, hP⟩
  · have self : ∃ q' ∈ (v.setP p (q.1 ++ [r], q.2)).parts, q' = (q.1 ++ [r], q.2) := (set_mem_iff h2).2 (.inl rfl)
    rintro (hP | ⟨q', hq', x, hx, hP⟩)
    · obtain ⟨q', hq', rfl⟩ := self
      exact ⟨_, hq', r, by simp, hP⟩
    · obtain ⟨j, hj⟩ := List.getElem?_of_mem hq'
      by_cases e : j = p.toNat
      · subst e
        rw [h2] at hj; cases hj
        obtain ⟨q'', hq'', rfl⟩ := self
        exact ⟨_, hq'', x, by simp [hx], hP⟩
      · obtain ⟨q'', hq'', e2⟩ := (set_mem_iff (x := (q.1 ++ [r], q.2)) (y := q') h2).2 (.inr ⟨j, e, hj⟩)
        subst e2
        exact ⟨_, hq'', x, hx, hP⟩
theorem keysOk_produce {v : SrcV} {p : Int} {r : RecV} (h : v.KeysOk) : (v.produce p r).1.KeysOk := by
  unfold SrcV.produce
  split
  · exact h
  · rename_i q hq
    split
    · exact h
    · have hr := fun k => setP_recs hq r (fun x => keyOfB v.list x = (k, true))
      split
      · rename_i hk
        have hkr : keyOfB v.list r = ((keyOfB v.list r).1, true) := by rw [← hk]
        split
        · rename_i hin
          intro k
          show k ∈ v.keys ↔ ∃ q' ∈ (v.setP p (q.1 ++ [r], q.2)).parts, ∃ x ∈ q'.1, keyOfB v.list x = (k, true)
          rw [hr k, h k]
          constructor
          · exact .inr
          · rintro (e | e)
            · rw [← h k]; rw [e] at hin; exact hin
            · exact e
        · split
          · exact h
          · intro k
            show k ∈ v.keys ++ [(keyOfB v.list r).1] ↔ ∃ q' ∈ (v.setP p (q.1 ++ [r], q.2)).parts, ∃ x ∈ q'.1, keyOfB v.list x = (k, true)
            rw [hr k, List.mem_append, h k, List.mem_singleton]
            constructor
            · rintro (e | e)
              · exact .inr e
              · subst e; exact .inl hkr
            · rintro (e | e)
              · right; rw [e]
              · exact .inl e
      · rename_i hk
        intro k
        show k ∈ v.keys ↔ ∃ q' ∈ (v.setP p (q.1 ++ [r], q.2)).parts, ∃ x ∈ q'.1, keyOfB v.list x = (k, true)
        rw [hr k, h k]
        constructor
        · exact .inr
        · rintro (e | e)
          · rw [e] at hk; simp at hk
          · exact e
theorem fill_inv (l : List OpV) (hl : ∀ o ∈ l, o.Fits) (hc : checkB l = true) : ∀ (its : List ItemV), (∀ x ∈ its, x.Fits) → ∀ v : SrcV, v.Fits → v.KeysOk → v.list = l ∧ v.parts.length = 2 →
    (its.foldl (fun v x => (v.produce (itemP x) x.r).1) v).Fits ∧ (its.foldl (fun v x => (v.produce (itemP x) x.r).1) v).KeysOk ∧ (its.foldl (fun v x => (v.produce (itemP x) x.r).1) v).list = l ∧ (its.foldl (fun v x => (v.produce (itemP x) x.r).1) v).parts.length = 2
  | [], _, v, h1, h2, h3 => ⟨h1, h2, h3⟩
  | x :: its, hf, v, h1, h2, h3 => by
    have := produce_shape v (itemP x) x.r
    exact fill_inv l hl hc its (fun y hy => hf y (by simp [hy])) _ (produce_fits h1 (hf x (by simp)).2) (keysOk_produce h2) ⟨this.1.trans h3.1, this.2.trans h3.2⟩
theorem new_fits {l : List OpV} {n : Nat} (hl : ∀ o ∈ l, o.Fits) (hc : checkB l = true) (h1 : 1 ≤ n) (h4 : n ≤ 4) : (srcNew n l).Fits :=
  ⟨hl, hc, by simp [srcNew]; omega, fun q hq => by
    have := List.eq_of_mem_replicate hq
    subst this; simp, by simp [srcNew]⟩

theorem sortL_strict {l : List Int} (h : l.Nodup) : (sortL l).Pairwise (· < ·) := by
  have h1 := sortL_sorted l
  have h2 : (sortL l).Nodup := (sortL_perm l).nodup_iff.2 h
  have h3 := List.Pairwise.and h1 h2
  exact h3.imp fun ⟨ha, hb⟩ => by omega
theorem sortL_mem {l : List Int} {k : Int} : k ∈ sortL l ↔ k ∈ l := (sortL_perm l).mem_iff
end Go.Sx
