/- Marks in plain lists: rising keys, their bytes, what Decode answers, unions. Conditions: none. -/
import Derived.Test.YtoljpkdokpinhaaSxT
import Derived.Test.YtoljpkdokpinhaaSxV
namespace Go.Sx
set_option linter.unusedSimpArgs false
set_option linter.unusedVariables false

/-! ### a list of what a reader reads -/
section
variable {α : Type}
def listGo (S : RdS → α × RdS) : Nat → List α → RdS → List α × RdS
  | 0, acc, s => (acc, s)
  | k + 1, acc, s => if s.2 = 0 then listGo S k (acc ++ [(S s).1]) (S s).2 else (acc, s)
theorem listGo_err (S : RdS → α × RdS) (k : Nat) (acc : List α) {s : RdS} (h : s.2 ≠ 0) : listGo S k acc s = (acc, s) := by
  cases k with
  | zero => rfl
  | succ k => rw [listGo, if_neg h]
variable {S : RdS → α × RdS} {pr : α → List Int} {ok : α → Prop}
theorem listGo_fwd (hS : Codec S pr ok) : ∀ (l acc : List α) (r : List Int), (∀ x ∈ l, ok x) → listGo S l.length acc (l.flatMap pr ++ r, 0) = (acc ++ l, (r, 0))
  | [], acc, r, _ => by simp [listGo]
  | x :: t, acc, r, h => by
    rw [List.length_cons, listGo, if_pos rfl, List.flatMap_cons, List.append_assoc, hS.fwd x _ (h x (by simp))]
    simp only
    rw [listGo_fwd hS t (acc ++ [x]) r fun y hy => h y (by simp [hy])]
    simp
theorem listGo_cut (hS : Codec S pr ok) : ∀ (l acc : List α) (k : Nat), (∀ x ∈ l, ok x) → k < (l.flatMap pr).length → (listGo S l.length acc ((l.flatMap pr).take k, 0)).2.2 = 3
  | [], acc, k, _, hk => by simp at hk
  | x :: t, acc, k, h, hk => by
    rw [List.length_cons, listGo, if_pos rfl]
    rw [List.flatMap_cons] at hk ⊢
    by_cases hlt : k < (pr x).length
    · rw [List.take_append_of_le_length (Nat.le_of_lt hlt)]
      have h3 := hS.cut x k (h x (by simp)) hlt
      rw [listGo_err _ _ _ (by rw [h3]; decide)]; exact h3
    · obtain ⟨j, rfl⟩ : ∃ j, k = (pr x).length + j := ⟨k - (pr x).length, by omega⟩
      rw [List.take_length_add_append, hS.fwd x _ (h x (by simp))]
      exact listGo_cut hS t (acc ++ [x]) j (fun y hy => h y (by simp [hy])) (by simp only [List.length_append] at hk; omega)
theorem listGo_back (hS : Codec S pr ok) : ∀ (k : Nat) (acc : List α) (l : List Int), Bytes l → (listGo S k acc (l, 0)).2.2 = 0 →
    ∃ (cs : List α) (r : List Int), listGo S k acc (l, 0) = (acc ++ cs, (r, 0)) ∧ cs.length = k ∧ l = cs.flatMap pr ++ r ∧ ∀ x ∈ cs, ok x
  | 0, acc, l, _, _ => ⟨[], l, by simp [listGo], rfl, by simp, by simp⟩
  | k + 1, acc, l, hb, h => by
    rw [listGo, if_pos rfl] at h ⊢
    have hs0 : (S (l, 0)).2.2 = 0 := by
      apply Classical.byContradiction
      intro hne
      rw [listGo_err _ _ _ hne] at h; exact hne h
    obtain ⟨e1, o1⟩ := hS.back l hb hs0
    have hb1 : Bytes (S (l, 0)).2.1 := fun c hc => hb c (by rw [e1]; simp [hc])
    have e2 : (S (l, 0)).2 = ((S (l, 0)).2.1, 0) := Prod.ext rfl hs0
    rw [e2] at h ⊢
    obtain ⟨cs, r, he, hl, hfl, hc⟩ := listGo_back hS k _ _ hb1 h
    refine ⟨(S (l, 0)).1 :: cs, r, ?_, by simp [hl], ?_, ?_⟩
    · rw [he]; simp
    · rw [List.flatMap_cons, List.append_assoc, ← hfl]; exact e1
    · intro x hx
      rcases List.mem_cons.1 hx with rfl | hx
      · exact o1
      · exact hc x hx
theorem listGo_codec (hS : Codec S pr ok) (k : Nat) : Codec (listGo S k []) (fun l => l.flatMap pr) (fun l => l.length = k ∧ ∀ x ∈ l, ok x) where
  stays s hs := by rw [listGo_err _ _ _ hs]
  fwd l r hl := by
    obtain ⟨rfl, h⟩ := hl
    rw [listGo_fwd hS l [] r h]; rfl
  cut l j hl hj := by
    obtain ⟨rfl, h⟩ := hl
    exact listGo_cut hS l [] j h hj
  back l hb h0 := by
    obtain ⟨cs, r, he, hlen, hfl, hok⟩ := listGo_back hS k [] l hb h0
    rw [he]
    exact ⟨hfl, hlen, hok⟩
theorem bindS_err {β : Type} {S : RdS → α × RdS} {T : α → RdS → β × RdS} (hst : ∀ v s, s.2 ≠ 0 → (T v s).2 = s) {s : RdS} (h : (S s).2.2 ≠ 0) : (bindS S T s).2 = (S s).2 := hst _ _ h
end

/-! ### rising keys -/
def risingK : List Int → Bool
  | [] => true
  | [_] => true
  | x :: y :: r => decide (x < y) && risingK (y :: r)
theorem risingK_pairwise : ∀ (l : List Int), risingK l = true ↔ l.Pairwise (· < ·)
  | [] => by simp [risingK]
  | [x] => by simp [risingK]
  | x :: y :: r => by
    rw [risingK, Bool.and_eq_true, decide_eq_true_eq, risingK_pairwise (y :: r)]
    simp only [List.pairwise_cons]
    constructor
    · rintro ⟨h, h1, h2⟩
      refine ⟨?_, h1, h2⟩
      intro a ha
      rcases List.mem_cons.1 ha with rfl | ha
      · exact h
      · have := h1 a ha; omega
    · rintro ⟨h1, h2⟩
      exact ⟨h1 _ (by simp), h2⟩
theorem risingK_iff : ∀ (l : List Int), risingK l = true ↔ ∀ (i : Nat) (x y : Int), l[i]? = some x → l[i + 1]? = some y → x < y
  | [] => by simp [risingK]
  | [_] => by simp [risingK]
  | x :: y :: r => by
    rw [risingK, Bool.and_eq_true, decide_eq_true_eq, risingK_iff (y :: r)]
    constructor
    · rintro ⟨h1, h2⟩ i u v hu hv
      cases i with
      | zero => simp at hu hv; subst hu; subst hv; exact h1
      | succ i => exact h2 i u v (by simpa using hu) (by simpa using hv)
    · intro h
      exact ⟨h 0 x y rfl rfl, fun i u v hu hv => h (i + 1) u v (by simpa using hu) (by simpa using hv)⟩

/-! ### marks -/
structure MarkV where
  batch : Int
  attempt : Int
  keys : List Int
def mark0 : MarkV := ⟨0, 0, []⟩
/-- keys that fit their type -/
def Keys64 (l : List Int) : Prop := ∀ x ∈ l, 0 ≤ x ∧ x < u64m
structure MarkV.Fits (m : MarkV) : Prop where
  b0 : -9223372036854775808 ≤ m.batch
  b1 : m.batch < 9223372036854775808
  a0 : -9223372036854775808 ≤ m.attempt
  a1 : m.attempt < 9223372036854775808
  ks : Keys64 m.keys
def withinB (n : Int) : Bool := decide (0 ≤ n) && decide (n ≤ 1099511627776)
def soundM (m : MarkV) : Bool := (withinB m.batch && withinB m.attempt && decide (m.keys.length ≤ 64) && risingK m.keys) &&
  (if m.batch = 0 ∧ m.attempt = 0 then decide (m.keys.length = 0) else decide (m.batch ≠ 0) && decide (m.attempt ≠ 0))
def bytesM (m : MarkV) : List Int := putB m.batch ++ (putB m.attempt ++ (putB m.keys.length ++ m.keys.flatMap putB))
def encodeM (m : MarkV) : List Int × Int := if soundM m = true then (bytesM m, 0) else ([], 1)
def nextS (most : Int) (over : Int) : RdS → Int × RdS := checkS (fun x => decide (most < x)) over numS
def markS : RdS → MarkV × RdS :=
  bindS (nextS 1099511627776 4) fun b => bindS (nextS 1099511627776 4) fun a => bindS (nextS 64 6) fun n => fun s => (⟨b, a, (listGo numS n.toNat [] s).1⟩, (listGo numS n.toNat [] s).2)
def decodeM (l : List Int) : MarkV × Int :=
  if (markS (l, 0)).2.2 ≠ 0 then (mark0, (markS (l, 0)).2.2) else if (markS (l, 0)).2.1 ≠ [] then (mark0, 5) else if soundM (markS (l, 0)).1 = false then (mark0, 1) else ((markS (l, 0)).1, 0)

theorem nextS_codec {most over : Int} (h : over ≠ 0) : Codec (nextS most over) putB (fun x => (0 ≤ x ∧ x < u64m) ∧ x ≤ most) := by
  have := numS_codec.check (fun x => decide (most < x)) h
  refine { this with fwd := ?_, cut := ?_, back := ?_ }
  · intro v r hv; exact this.fwd v r ⟨hv.1, by simpa using hv.2⟩
  · intro v k hv hk; exact this.cut v k ⟨hv.1, by simpa using hv.2⟩ hk
  · intro l hb h0
    obtain ⟨a, b, c⟩ := this.back l hb h0
    exact ⟨a, b, by simpa [nextS] using c⟩
theorem nextS_stays {most over : Int} {s : RdS} (h : s.2 ≠ 0) : (nextS most over s).2 = s := by
  have e3 : (numS s).2 = s := by rw [numS_err h]
  simp only [nextS, checkS]
  rw [e3, failS_err _ h]; simp
theorem listN_stays {n : Int} {s : RdS} (h : s.2 ≠ 0) : (listGo numS n.toNat [] s).2 = s := by rw [listGo_err _ _ _ h]
/-- what a mark's bytes may be -/
def okM (m : MarkV) : Prop := ((0 ≤ m.batch ∧ m.batch < u64m) ∧ m.batch ≤ 1099511627776) ∧ ((0 ≤ m.attempt ∧ m.attempt < u64m) ∧ m.attempt ≤ 1099511627776) ∧ m.keys.length ≤ 64 ∧ Keys64 m.keys
theorem markS_codec : Codec markS bytesM okM := by
  refine (nextS_codec (by decide)).bind (okT := fun b m => okM m ∧ m.batch = b) (prT := fun b m => putB m.attempt ++ (putB m.keys.length ++ m.keys.flatMap putB)) ?_ ?_ MarkV.batch (fun m hm => ⟨hm.1, hm, rfl⟩) (fun b m _ hm => ⟨hm.1, hm.2⟩) (fun m _ => rfl)
  · intro b s hs
    simp only [bindS]
    rw [nextS_stays hs, nextS_stays hs, listN_stays hs]
  · intro b hb
    refine (nextS_codec (by decide)).bind (okT := fun a m => okM m ∧ m.batch = b ∧ m.attempt = a) (prT := fun a m => putB m.keys.length ++ m.keys.flatMap putB) ?_ ?_ MarkV.attempt (fun m hm => ⟨hm.1.2.1, hm.1, hm.2, rfl⟩) (fun a m _ hm => ⟨⟨hm.1, hm.2.1⟩, hm.2.2⟩) (fun m _ => rfl)
    · intro a s hs
      simp only [bindS]
      rw [nextS_stays hs, listN_stays hs]
    · intro a ha
      refine (nextS_codec (by decide)).bind (okT := fun n m => okM m ∧ m.batch = b ∧ m.attempt = a ∧ (m.keys.length : Int) = n) (prT := fun n m => m.keys.flatMap putB) ?_ ?_ (fun m => (m.keys.length : Int)) (fun m hm => ⟨⟨⟨by omega, by have := hm.1.2.2.1; simp only [u64m]; omega⟩, by have := hm.1.2.2.1; omega⟩, hm.1, hm.2.1, hm.2.2, rfl⟩) (fun n m _ hm => ⟨⟨hm.1, hm.2.1, hm.2.2.1⟩, hm.2.2.2⟩) (fun m _ => rfl)
      · intro n s hs; exact listN_stays hs
      · intro n hn
        refine (listGo_codec numS_codec n.toNat).map (f := fun ks => (⟨b, a, ks⟩ : MarkV)) (g := MarkV.keys) ?_ ?_ (fun _ _ => rfl)
        · rintro m ⟨hm, rfl, rfl, hl⟩
          exact ⟨⟨by omega, hm.2.2.2⟩, rfl⟩
        · rintro ks ⟨hl, hk⟩
          exact ⟨⟨⟨hb, ha, by show ks.length ≤ 64; omega, hk⟩, rfl, rfl, by show (ks.length : Int) = n; omega⟩, rfl⟩
theorem soundM_ok {m : MarkV} (h : soundM m = true) (hk : Keys64 m.keys) : okM m := by
  simp only [soundM, withinB, Bool.and_eq_true, decide_eq_true_eq] at h
  obtain ⟨⟨⟨⟨⟨h1, h2⟩, h3, h4⟩, h5⟩, h6⟩, -⟩ := h
  refine ⟨⟨⟨h1, by simp only [u64m]; omega⟩, h2⟩, ⟨⟨h3, by simp only [u64m]; omega⟩, h4⟩, h5, hk⟩
theorem decodeM_fwd {m : MarkV} (h : soundM m = true) (hk : Keys64 m.keys) (r : List Int) : decodeM (bytesM m ++ r) = if r = [] then (m, 0) else (mark0, 5) := by
  have := markS_codec.fwd m r (soundM_ok h hk)
  rw [decodeM, this]
  simp only
  by_cases hr : r = [] <;> simp [hr, h]
theorem decodeM_cut {m : MarkV} {k : Nat} (h : soundM m = true) (hk : Keys64 m.keys) (hkl : k < (bytesM m).length) : decodeM ((bytesM m).take k) = (mark0, 3) := by
  have := markS_codec.cut m k (soundM_ok h hk) hkl
  rw [decodeM, this, if_pos (by decide)]
theorem decodeM_back {l : List Int} (hb : Bytes l) (h : (decodeM l).2 = 0) : bytesM (decodeM l).1 = l ∧ soundM (decodeM l).1 = true ∧ Keys64 (decodeM l).1.keys := by
  unfold decodeM at h ⊢
  by_cases h1 : (markS (l, 0)).2.2 = 0
  · rw [if_neg (by simpa using h1)] at h ⊢
    obtain ⟨e, o⟩ := markS_codec.back l hb h1
    by_cases h2 : (markS (l, 0)).2.1 = []
    · rw [if_neg (by simpa using h2)] at h ⊢
      rw [h2, List.append_nil] at e
      by_cases h3 : soundM (markS (l, 0)).1 = false
      · rw [if_pos h3] at h; simp at h
      · rw [if_neg h3]
        exact ⟨e.symm, by simpa using h3, o.2.2.2⟩
    · rw [if_pos (by simpa using h2)] at h; simp at h
  · rw [if_pos (by simpa using h1)] at h
    exact absurd h h1
theorem putB_len1 {x : Int} : 1 ≤ (putB x).length := putB_pos x
theorem flat_putB_len : ∀ (t : List Int), Keys64 t → (t.flatMap putB).length ≤ 10 * t.length
  | [], _ => by simp
  | y :: t, h => by
    have h1 := putB_len10 (h y (by simp)).2
    have h2 := flat_putB_len t fun z hz => h z (by simp [hz])
    simp only [List.flatMap_cons, List.length_append, List.length_cons]; omega
theorem bytesM_len {m : MarkV} (h : soundM m = true) (hk : Keys64 m.keys) : (bytesM m).length ≤ 670 := by
  have ho := soundM_ok h hk
  have h1 := putB_len10 ho.1.1.2
  have h2 := putB_len10 ho.2.1.1.2
  have h3 := putB_len10 (x := (m.keys.length : Int)) (by have := ho.2.2.1; simp only [u64m]; omega)
  have h4 := flat_putB_len m.keys hk
  have h5 := ho.2.2.1
  simp only [bytesM, List.length_append]; omega
theorem flat_putB_bytes {t : List Int} (h : Keys64 t) : Bytes (t.flatMap putB) := by
  intro c hc
  obtain ⟨x, hx, hc⟩ := List.mem_flatMap.1 hc
  exact putB_byte x.toNat x (Nat.le_refl _) (h x hx).1 c hc
theorem bytesM_bytes {m : MarkV} (h : soundM m = true) (hk : Keys64 m.keys) : Bytes (bytesM m) := by
  have ho := soundM_ok h hk
  have hp : ∀ y, 0 ≤ y → Bytes (putB y) := fun y hy => putB_byte y.toNat y (Nat.le_refl _) hy
  exact (hp _ ho.1.1.1).append ((hp _ ho.2.1.1.1).append ((hp _ (by omega)).append (flat_putB_bytes hk)))

/-! ### unions -/
def dedupStep (acc : List Int) (x : Int) : List Int := if acc.getLast? = some x then acc else acc ++ [x]
/-- runs of the same become one -/
def dedupL (l : List Int) : List Int := l.foldl dedupStep []
theorem dedupL_snoc (l : List Int) (x : Int) : dedupL (l ++ [x]) = dedupStep (dedupL l) x := by simp [dedupL]
theorem dedup_last : ∀ (l : List Int) (acc : List Int), (l.foldl dedupStep acc).getLast? = (acc ++ l).getLast?
  | [], acc => by simp
  | x :: r, acc => by
    rw [List.foldl_cons, dedup_last r]
    unfold dedupStep
    split
    · rename_i h
      cases hr : r with
      | nil =>
        rw [List.append_nil, h]
        simp
      | cons y t =>
        rw [List.getLast?_append, List.getLast?_append]
        simp
    · simp
theorem dedupL_last (l : List Int) : (dedupL l).getLast? = l.getLast? := by simpa [dedupL] using dedup_last l []
theorem dedup_len : ∀ (l acc : List Int), (l.foldl dedupStep acc).length ≤ acc.length + l.length
  | [], acc => by simp
  | x :: r, acc => by
    rw [List.foldl_cons]
    have := dedup_len r (dedupStep acc x)
    have h2 : (dedupStep acc x).length ≤ acc.length + 1 := by unfold dedupStep; split <;> simp
    simp only [List.length_cons]; omega
theorem dedupL_len (l : List Int) : (dedupL l).length ≤ l.length := by simpa [dedupL] using dedup_len l []
theorem dedup_mem : ∀ (l acc : List Int) (z : Int), z ∈ l.foldl dedupStep acc ↔ z ∈ acc ∨ z ∈ l
  | [], acc, z => by simp
  | x :: r, acc, z => by
    rw [List.foldl_cons, dedup_mem r]
    unfold dedupStep
    split
    · rename_i h
      have hx : x ∈ acc := List.mem_of_getLast? h
      constructor
      · rintro (h | h)
        · exact .inl h
        · exact .inr (by simp [h])
      · rintro (h | h)
        · exact .inl h
        · rcases List.mem_cons.1 h with rfl | h
          · exact .inl hx
          · exact .inr h
    · simp [or_assoc]
theorem dedupL_mem (l : List Int) (z : Int) : z ∈ dedupL l ↔ z ∈ l := by simpa [dedupL] using dedup_mem l [] z
theorem dedup_rising : ∀ (l acc : List Int), acc.Pairwise (· < ·) → l.Pairwise (· ≤ ·) → (∀ x ∈ acc, ∀ y ∈ l, x ≤ y) → (l.foldl dedupStep acc).Pairwise (· < ·)
  | [], acc, h, _, _ => by simpa using h
  | x :: r, acc, h, hl, hb => by
    rw [List.foldl_cons]
    rw [List.pairwise_cons] at hl
    refine dedup_rising r _ ?_ hl.2 ?_
    · unfold dedupStep
      split
      · exact h
      · rename_i hne
        rw [List.pairwise_append]
        refine ⟨h, by simp, fun a ha b hb' => ?_⟩
        simp only [List.mem_singleton] at hb'; subst hb'
        have h1 := hb a ha b (by simp)
        rcases Int.lt_or_eq_of_le h1 with h2 | rfl
        · exact h2
        · exfalso
          -- a is the last of acc
          obtain ⟨i, hi⟩ := List.getElem?_of_mem ha
          have hil : i < acc.length := (List.getElem?_eq_some_iff.1 hi).1
          apply hne
          rw [List.getLast?_eq_getElem?]
          rcases Nat.lt_or_ge i (acc.length - 1) with h3 | h3
          · have h4 := List.pairwise_iff_getElem.1 h i (acc.length - 1) hil (by omega) h3
            rw [List.getElem?_eq_getElem hil] at hi
            have h5 := hb acc[acc.length - 1] (List.getElem_mem _) a (by simp)
            cases hi; omega
          · have : i = acc.length - 1 := by omega
            rw [← this]; exact hi
    · intro a ha y hy
      unfold dedupStep at ha
      split at ha
      · exact hb a ha y (by simp [hy])
      · rcases List.mem_append.1 ha with ha | ha
        · exact hb a ha y (by simp [hy])
        · simp only [List.mem_singleton] at ha; subst ha; exact hl.1 y hy
theorem sortL_perm (l : List Int) : (sortL l).Perm l := List.mergeSort_perm l _
theorem sortL_len (l : List Int) : (sortL l).length = l.length := (sortL_perm l).length_eq
theorem sortL_sorted (l : List Int) : (sortL l).Pairwise (· ≤ ·) := by
  have := List.pairwise_mergeSort (le := fun x y : Int => decide (x ≤ y)) (fun a b c => by simp; omega) (fun a b => by simp; omega) l
  unfold sortL
  exact this.imp fun h => by simpa using h
/-- all keys of a list, in order, each once -/
def unionL (l : List Int) : List Int := dedupL (sortL l)
theorem unionL_rising (l : List Int) : (unionL l).Pairwise (· < ·) := dedup_rising _ [] (by simp) (sortL_sorted l) (by simp)
theorem unionL_mem (l : List Int) (z : Int) : z ∈ unionL l ↔ z ∈ l := by rw [unionL, dedupL_mem]; exact (sortL_perm l).mem_iff
theorem rising_ext : ∀ {a b : List Int}, a.Pairwise (· < ·) → b.Pairwise (· < ·) → (∀ z, z ∈ a ↔ z ∈ b) → a = b
  | [], [], _, _, _ => rfl
  | [], y :: s, _, _, h => by have := (h y).2 (by simp); simp at this
  | x :: r, [], _, _, h => by have := (h x).1 (by simp); simp at this
  | x :: r, y :: s, ha, hb, h => by
    rw [List.pairwise_cons] at ha hb
    have hxy : x = y := by
      have h1 := (h x).1 (by simp)
      have h2 := (h y).2 (by simp)
      rcases List.mem_cons.1 h1 with h1 | h1
      · exact h1
      · rcases List.mem_cons.1 h2 with h2 | h2
        · exact h2.symm
        · have := ha.1 y h2; have := hb.1 x h1; omega
    subst hxy
    congr 1
    refine rising_ext ha.2 hb.2 fun z => ?_
    have hz := h z
    constructor
    · intro hm
      rcases List.mem_cons.1 (hz.1 (by simp [hm])) with rfl | h'
      · have := ha.1 z hm; omega
      · exact h'
    · intro hm
      rcases List.mem_cons.1 (hz.2 (by simp [hm])) with rfl | h'
      · have := hb.1 z hm; omega
      · exact h'
theorem unionL_perm {a b : List Int} (h : ∀ z, z ∈ a ↔ z ∈ b) : unionL a = unionL b := rising_ext (unionL_rising a) (unionL_rising b) fun z => by rw [unionL_mem, unionL_mem]; exact h z
/-- rising keys with one more -/
def withL (l : List Int) (k : Int) : List Int := if l[(l.takeWhile fun x => decide (x < k)).length]? = some k then l else l.take (l.takeWhile fun x => decide (x < k)).length ++ k :: l.drop (l.takeWhile fun x => decide (x < k)).length
theorem withL_spec {l : List Int} (h : l.Pairwise (· < ·)) (k : Int) : (withL l k).Pairwise (· < ·) ∧ (∀ z, z ∈ withL l k ↔ z ∈ l ∨ z = k) := by
  unfold withL
  obtain ⟨i, hi⟩ : ∃ i, i = (l.takeWhile fun x => decide (x < k)).length := ⟨_, rfl⟩
  rw [← hi]
  have hsplit := List.takeWhile_append_dropWhile (p := fun x : Int => decide (x < k)) (l := l)
  have htk : l.take i = l.takeWhile fun x => decide (x < k) := by
    conv => lhs; rw [← hsplit]
    rw [hi, List.take_left]
  have hdk : l.drop i = l.dropWhile fun x => decide (x < k) := by
    conv => lhs; rw [← hsplit]
    rw [hi, List.drop_left]
  have hlo : ∀ y ∈ l.take i, y < k := by
    intro y hy
    rw [htk] at hy
    have hall := List.all_takeWhile (p := fun x : Int => decide (x < k)) (l := l)
    rw [List.all_eq_true] at hall
    simpa using hall y hy
  have hhi : ∀ y ∈ l.drop i, k ≤ y := by
    intro y hy
    cases hd : l.dropWhile fun x => decide (x < k) with
    | nil => rw [hdk, hd] at hy; simp at hy
    | cons z t =>
      have hz : ¬ z < k := by
        have := List.head_dropWhile_not (fun x : Int => decide (x < k)) (l := l) (by rw [hd]; simp)
        simp only [hd, List.head_cons] at this
        simpa using this
      rw [hdk, hd] at hy
      rcases List.mem_cons.1 hy with rfl | hy
      · omega
      · have hsub : (z :: t).Pairwise (· < ·) := by rw [← hd, ← hdk]; exact h.sublist (List.drop_sublist _ _)
        rw [List.pairwise_cons] at hsub
        have := hsub.1 _ hy; omega
  split
  · rename_i he
    exact ⟨h, fun z => ⟨.inl, fun hz => hz.elim id fun e => by rw [e]; exact List.mem_of_getElem? he⟩⟩
  · rename_i hne
    have hhi' : ∀ y ∈ l.drop i, k < y := by
      intro y hy
      rcases Int.lt_or_eq_of_le (hhi y hy) with h1 | rfl
      · exact h1
      · exfalso
        obtain ⟨j, hj⟩ := List.getElem?_of_mem hy
        cases j with
        | zero => rw [List.getElem?_drop] at hj; exact hne (by simpa using hj)
        | succ j =>
          rw [List.getElem?_drop] at hj
          have hjl : i + (j + 1) < l.length := (List.getElem?_eq_some_iff.1 hj).1
          have h4 := List.pairwise_iff_getElem.1 h i (i + (j + 1)) (by omega) hjl (by omega)
          have h5 := hhi l[i] (by
            have : (l.drop i)[0]? = some l[i] := by rw [List.getElem?_drop]; simp
            exact List.mem_of_getElem? this)
          rw [List.getElem?_eq_getElem hjl] at hj
          cases hj; omega
    refine ⟨?_, fun z => ?_⟩
    · rw [List.pairwise_append, List.pairwise_cons]
      refine ⟨h.sublist (List.take_sublist _ _), ⟨hhi', h.sublist (List.drop_sublist _ _)⟩, fun a ha b hb => ?_⟩
      rcases List.mem_cons.1 hb with rfl | hb
      · exact hlo a ha
      · have := hlo a ha; have := hhi' b hb; omega
    · have : z ∈ l ↔ z ∈ l.take i ∨ z ∈ l.drop i := by
        conv => lhs; rw [← List.take_append_drop i l]
        exact List.mem_append
      rw [this, List.mem_append, List.mem_cons]
      constructor
      · rintro (h | h | h)
        · exact .inl (.inl h)
        · exact .inr h
        · exact .inl (.inr h)
      · rintro ((h | h) | h)
        · exact .inl h
        · exact .inr (.inr h)
        · exact .inr (.inl h)
theorem withL_len (l : List Int) (k : Int) : (withL l k).length ≤ l.length + 1 := by
  unfold withL; split
  · omega
  · simp only [List.length_append, List.length_cons, List.length_take, List.length_drop]; omega
theorem foldWith : ∀ (l acc : List Int), acc.Pairwise (· < ·) → (l.foldl withL acc).Pairwise (· < ·) ∧ ∀ z, z ∈ l.foldl withL acc ↔ z ∈ acc ∨ z ∈ l
  | [], acc, h => ⟨h, by simp⟩
  | x :: r, acc, h => by
    obtain ⟨h1, h2⟩ := withL_spec h x
    obtain ⟨h3, h4⟩ := foldWith r (withL acc x) h1
    refine ⟨h3, fun z => ?_⟩
    rw [List.foldl_cons, h4, h2, List.mem_cons, or_assoc]
theorem foldWith_union (l : List Int) : l.foldl withL [] = unionL l := by
  obtain ⟨h1, h2⟩ := foldWith l [] (by simp)
  exact rising_ext h1 (unionL_rising l) fun z => by rw [h2, unionL_mem]; simp
end Go.Sx
