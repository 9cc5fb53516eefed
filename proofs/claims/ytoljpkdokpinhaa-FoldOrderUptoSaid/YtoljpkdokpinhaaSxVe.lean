/- What a batch holds, key by key. Conditions: none. -/
import Derived.Test.YtoljpkdokpinhaaSxVd
namespace Go.Sx
set_option linter.unusedSimpArgs false
set_option linter.unusedVariables false

def bOne (list : List OpV) (kind : Int) (m : Tab × Int) (r : RecV) : Tab × Int := if (runB list r).2 = 1 then (putT kind m.1 (runB list r).1.key (ofV kind (runB list r).1.val), m.2) else if (runB list r).2 = 3 then (m.1, IntKind.i64.wrap (m.2 + 1)) else m
def bAll (list : List OpV) (kind : Int) (rs : List RecV) : Tab × Int := rs.foldl (bOne list kind) ([], 0)
/-- the parts that the kept records make -/
def keptL (list : List OpV) (kind : Int) (rs : List RecV) : List (Int × ValV) := rs.filterMap fun r => if (runB list r).2 = 1 then some ((runB list r).1.key, ofV kind (runB list r).1.val) else none
def valsOf (ks : List (Int × ValV)) (k : Int) : List ValV := (ks.filter fun p => p.1 == k).map (·.2)
def sumV (kind : Int) (vs : List ValV) : ValV := vs.foldl (joinV kind) val0
def trapN (list : List OpV) (rs : List RecV) : Nat := (rs.filter fun r => (runB list r).2 == 3).length

theorem bAll_tab (list : List OpV) (kind : Int) : ∀ (rs : List RecV) (m : Tab × Int), (rs.foldl (bOne list kind) m).1 = (keptL list kind rs).foldl (fun m p => putT kind m p.1 p.2) m.1
  | [], m => rfl
  | r :: rs, m => by
    show (rs.foldl (bOne list kind) (bOne list kind m r)).1 = _
    rw [bAll_tab list kind rs]
    unfold keptL bOne
    rw [List.filterMap_cons]
    by_cases h1 : (runB list r).2 = 1
    · rw [if_pos h1, if_pos h1]; rfl
    · rw [if_neg h1, if_neg h1]
      by_cases h3 : (runB list r).2 = 3
      · rw [if_pos h3]
      · rw [if_neg h3]
theorem bAll_traps (list : List OpV) (kind : Int) : ∀ (rs : List RecV) (m : Tab × Int), 0 ≤ m.2 → m.2 + rs.length < 9223372036854775808 → (rs.foldl (bOne list kind) m).2 = m.2 + (trapN list rs : Int)
  | [], m, _, _ => by simp [trapN]
  | r :: rs, m, h0, hl => by
    show (rs.foldl (bOne list kind) (bOne list kind m r)).2 = _
    simp only [List.length_cons] at hl
    have hs : (bOne list kind m r).2 = m.2 + (if (runB list r).2 = 3 then 1 else 0) := by
      unfold bOne
      by_cases h1 : (runB list r).2 = 1
      · rw [if_pos h1, if_neg (by omega)]; simp
      · rw [if_neg h1]
        by_cases h3 : (runB list r).2 = 3
        · rw [if_pos h3, if_pos h3]; show IntKind.i64.wrap (m.2 + 1) = _; rw [IntKind.wrap_i64]; omega
        · rw [if_neg h3, if_neg h3]; simp
    have ht : trapN list (r :: rs) = (if (runB list r).2 = 3 then 1 else 0) + trapN list rs := by
      unfold trapN
      rw [List.filter_cons]
      by_cases h3 : (runB list r).2 = 3
      · rw [if_pos (by simpa using h3), if_pos h3, List.length_cons]; omega
      · rw [if_neg (by simpa using h3), if_neg h3]; omega
    rw [bAll_traps list kind rs _ (by rw [hs]; split <;> omega) (by rw [hs]; split <;> omega), hs, ht]
    split <;> omega

theorem valsOf_cons (p : Int × ValV) (ks : List (Int × ValV)) (k : Int) : valsOf (p :: ks) k = if p.1 = k then p.2 :: valsOf ks k else valsOf ks k := by
  unfold valsOf
  rw [List.filter_cons]
  by_cases h : p.1 = k
  · rw [if_pos (by simpa using h), if_pos h]; rfl
  · rw [if_neg (by simpa using h), if_neg h]
theorem valsOf_append (a b : List (Int × ValV)) (k : Int) : valsOf (a ++ b) k = valsOf a k ++ valsOf b k := by unfold valsOf; rw [List.filter_append, List.map_append]
def TabForm (kind : Int) (m : Tab) : Prop := (m.map (·.1)).Nodup ∧ ∀ k v, getM m k = some v → Form kind v
theorem TabForm.getD {kind : Int} {m : Tab} (h : TabForm kind m) (k : Int) : Form kind ((getM m k).getD val0) := by
  cases hg : getM m k with
  | none => exact Form.zero
  | some v => exact h.2 k v hg
theorem put_form {kind : Int} {m : Tab} {k : Int} {v : ValV} (hk : knownB kind = true) (hm : TabForm kind m) (hv : Form kind v) : TabForm kind (putT kind m k v) := by
  refine ⟨setM_nodup hm.1, fun k' v' h => ?_⟩
  unfold putT at h
  rw [getM_set hm.1] at h
  split at h
  · cases h
    rw [mergeV_form (hm.getD k) hv]
    exact Form.join hk (hm.getD k) hv
  · exact hm.2 k' v' h
theorem put_fold {kind : Int} (hk : knownB kind = true) : ∀ (ks : List (Int × ValV)) (m : Tab), (∀ p ∈ ks, Form kind p.2) → TabForm kind m →
    TabForm kind (ks.foldl (fun m p => putT kind m p.1 p.2) m) ∧ ∀ k, getM (ks.foldl (fun m p => putT kind m p.1 p.2) m) k = if valsOf ks k = [] then getM m k else some ((valsOf ks k).foldl (joinV kind) ((getM m k).getD val0))
  | [], m, _, hm => ⟨hm, fun k => rfl⟩
  | p :: ks, m, hf, hm => by
    have hp := hf p (by simp)
    have hm' := put_form (k := p.1) hk hm hp
    obtain ⟨a1, a2⟩ := put_fold hk ks (putT kind m p.1 p.2) (fun q hq => hf q (by simp [hq])) hm'
    refine ⟨a1, fun k => ?_⟩
    show getM (ks.foldl (fun m p => putT kind m p.1 p.2) (putT kind m p.1 p.2)) k = _
    rw [a2 k, valsOf_cons]
    have hset : getM (putT kind m p.1 p.2) k = if k = p.1 then some (joinV kind ((getM m p.1).getD val0) p.2) else getM m k := by
      unfold putT; rw [getM_set hm.1, mergeV_form (hm.getD p.1) hp]
    by_cases h : p.1 = k
    · rw [if_pos h, hset, if_pos h.symm]
      subst h
      simp only [Option.getD_some, List.foldl_cons]
      by_cases hn : valsOf ks p.1 = []
      · rw [if_pos hn, hn]; simp
      · rw [if_neg hn]; simp
    · have hset' : getM (putT kind m p.1 p.2) k = getM m k := by rw [hset, if_neg (show ¬ k = p.1 from fun e => h e.symm)]
      rw [if_neg h, hset']
theorem tab_nil {kind : Int} : TabForm kind [] := ⟨by simp, fun k v h => by simp [getM] at h⟩
theorem kept_form {list : List OpV} {kind : Int} {rs : List RecV} (hl : ∀ o ∈ list, o.Fits) (hf : ∀ x ∈ rs, x.Fits) : ∀ p ∈ keptL list kind rs, Form kind p.2 := by
  intro p hp
  unfold keptL at hp
  obtain ⟨r, hr, he⟩ := List.mem_filterMap.1 hp
  split at he
  · cases he
    exact Form.of (runB_fits hl (hf r hr)).2
  · cases he
/-- a batch's value of a key is the sum of its parts -/
theorem batch_get {list : List OpV} {kind : Int} {rs : List RecV} (hk : knownB kind = true) (hl : ∀ o ∈ list, o.Fits) (hf : ∀ x ∈ rs, x.Fits) :
    TabForm kind (bAll list kind rs).1 ∧ ∀ k, getM (bAll list kind rs).1 k = if valsOf (keptL list kind rs) k = [] then none else some (sumV kind (valsOf (keptL list kind rs) k)) := by
  unfold bAll
  rw [bAll_tab]
  obtain ⟨a1, a2⟩ := put_fold hk (keptL list kind rs) [] (kept_form hl hf) tab_nil
  exact ⟨a1, fun k => by rw [a2 k]; rfl⟩

/-! ### sums -/
theorem fold_form {kind : Int} (hk : knownB kind = true) : ∀ (vs : List ValV) (a : ValV), Form kind a → (∀ v ∈ vs, Form kind v) → Form kind (vs.foldl (joinV kind) a)
  | [], a, ha, _ => ha
  | v :: vs, a, ha, h => fold_form hk vs _ (Form.join hk ha (h v (by simp))) fun x hx => h x (by simp [hx])
theorem fold_start {kind : Int} (hk : knownB kind = true) : ∀ (vs : List ValV) (a : ValV), Form kind a → (∀ v ∈ vs, Form kind v) → vs.foldl (joinV kind) a = joinV kind a (sumV kind vs)
  | [], a, ha, _ => (join_zero ha).2.symm
  | v :: vs, a, ha, h => by
    have hv := h v (by simp)
    have hr : ∀ x ∈ vs, Form kind x := fun x hx => h x (by simp [hx])
    unfold sumV
    rw [List.foldl_cons, List.foldl_cons, fold_start hk vs _ (Form.join hk ha hv) hr, (join_zero hv).1, fold_start hk vs v hv hr]
    exact join_assoc hk ha hv (fold_form hk vs val0 Form.zero hr)
theorem sum_append {kind : Int} (hk : knownB kind = true) {a b : List ValV} (ha : ∀ v ∈ a, Form kind v) (hb : ∀ v ∈ b, Form kind v) : sumV kind (a ++ b) = joinV kind (sumV kind a) (sumV kind b) := by
  show (a ++ b).foldl (joinV kind) val0 = _
  rw [List.foldl_append]
  exact fold_start hk b _ (fold_form hk a val0 Form.zero ha) hb
theorem sum_perm {kind : Int} (hk : knownB kind = true) {a b : List ValV} (h : a.Perm b) : ∀ (z : ValV), Form kind z → (∀ v ∈ a, Form kind v) → a.foldl (joinV kind) z = b.foldl (joinV kind) z := by
  induction h with
  | nil => intro z _ _; rfl
  | cons x _ ih => intro z hz hf; exact ih _ (Form.join hk hz (hf x (by simp))) fun v hv => hf v (by simp [hv])
  | swap x y l =>
    intro z hz hf
    have hx := hf x (by simp); have hy := hf y (by simp)
    simp only [List.foldl_cons]
    rw [join_assoc hk hz hy hx, join_assoc hk hz hx hy, join_comm hy hx]
  | trans h1 _ ih1 ih2 => intro z hz hf; rw [ih1 z hz hf, ih2 z hz fun v hv => hf v (h1.mem_iff.2 hv)]
end Go.Sx
