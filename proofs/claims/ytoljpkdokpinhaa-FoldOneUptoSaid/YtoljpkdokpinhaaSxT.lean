/- Readers of bytes and what they read: printed and read again, cut, read and printed again. Conditions: none. -/
import Derived.Test.YtoljpkdokpinhaaSxS
namespace Go.Sx
set_option linter.unusedSimpArgs false
set_option linter.unusedVariables false

/-- a reader and its printer: an error stays; what is printed is read; cut short it is refused; what is read was printed -/
structure Codec {α : Type} (S : RdS → α × RdS) (pr : α → List Int) (ok : α → Prop) : Prop where
  stays : ∀ s, s.2 ≠ 0 → (S s).2 = s
  fwd : ∀ v r, ok v → S (pr v ++ r, 0) = (v, (r, 0))
  cut : ∀ v k, ok v → k < (pr v).length → (S ((pr v).take k, 0)).2.2 = 3
  back : ∀ l, Bytes l → (S (l, 0)).2.2 = 0 → l = pr (S (l, 0)).1 ++ (S (l, 0)).2.1 ∧ ok (S (l, 0)).1

section
variable {α β : Type}
def bindS (S : RdS → α × RdS) (T : α → RdS → β × RdS) : RdS → β × RdS := fun s => T (S s).1 (S s).2
theorem Codec.bind {S : RdS → α × RdS} {prS : α → List Int} {okS : α → Prop} {T : α → RdS → β × RdS} {prT : α → β → List Int} {okT : α → β → Prop} {pr : β → List Int} {ok : β → Prop} (hS : Codec S prS okS)
    (hst : ∀ v s, s.2 ≠ 0 → (T v s).2 = s) (hT : ∀ v, okS v → Codec (T v) (prT v) (okT v)) (π : β → α) (h1 : ∀ y, ok y → okS (π y) ∧ okT (π y) y) (h2 : ∀ v y, okS v → okT v y → ok y ∧ π y = v)
    (hp : ∀ y, ok y → pr y = prS (π y) ++ prT (π y) y) : Codec (bindS S T) pr ok where
  stays s hs := by unfold bindS; rw [hst _ _ (by rw [hS.stays s hs]; exact hs), hS.stays s hs]
  fwd y r hy := by
    obtain ⟨a, b⟩ := h1 y hy
    unfold bindS
    rw [hp y hy, List.append_assoc, hS.fwd _ _ a]
    exact (hT _ a).fwd y r b
  cut y k hy hk := by
    obtain ⟨a, b⟩ := h1 y hy
    unfold bindS
    rw [hp y hy] at hk ⊢
    by_cases hlt : k < (prS (π y)).length
    · rw [List.take_append_of_le_length (Nat.le_of_lt hlt)]
      have h3 := hS.cut _ k a hlt
      have h0 : (S ((prS (π y)).take k, 0)).2.2 ≠ 0 := by rw [h3]; decide
      rw [hst _ _ h0]; exact h3
    · obtain ⟨j, rfl⟩ : ∃ j, k = (prS (π y)).length + j := ⟨k - (prS (π y)).length, by omega⟩
      rw [List.take_length_add_append, hS.fwd _ _ a]
      exact (hT _ a).cut y j b (by simp only [List.length_append] at hk; omega)
  back l hb h0 := by
    unfold bindS at h0 ⊢
    have hs0 : (S (l, 0)).2.2 = 0 := by
      apply Classical.byContradiction
      intro hne
      rw [hst _ _ hne] at h0; exact hne h0
    obtain ⟨e1, o1⟩ := hS.back l hb hs0
    have hb1 : Bytes (S (l, 0)).2.1 := fun c hc => hb c (by rw [e1]; simp [hc])
    have e2 : (S (l, 0)).2 = ((S (l, 0)).2.1, 0) := Prod.ext rfl hs0
    rw [e2] at h0 ⊢
    obtain ⟨e3, o3⟩ := (hT _ o1).back _ hb1 h0
    obtain ⟨o4, e4⟩ := h2 _ _ o1 o3
    refine ⟨?_, o4⟩
    rw [hp _ o4, e4, List.append_assoc, ← e3]; exact e1

def checkS (c : α → Bool) (e : Int) (S : RdS → α × RdS) : RdS → α × RdS := fun s => ((S s).1, if c (S s).1 = true then failS e (S s).2 else (S s).2)
theorem Codec.check {S : RdS → α × RdS} {pr : α → List Int} {ok : α → Prop} (h : Codec S pr ok) (c : α → Bool) {e : Int} (he : e ≠ 0) : Codec (checkS c e S) pr (fun v => ok v ∧ c v = false) where
  stays s hs := by
    unfold checkS
    have : (S s).2.2 ≠ 0 := by rw [h.stays s hs]; exact hs
    split
    · rw [failS_err _ this, h.stays s hs]
    · rw [h.stays s hs]
  fwd v r hv := by unfold checkS; rw [h.fwd v r hv.1]; simp [hv.2]
  cut v k hv hk := by
    have h3 := h.cut v k hv.1 hk
    unfold checkS
    split
    · rw [failS_err _ (by rw [h3]; decide)]; exact h3
    · exact h3
  back l hb h0 := by
    unfold checkS at h0 ⊢
    split at h0
    · exfalso
      unfold failS at h0
      split at h0
      · exact he h0
      · exact absurd h0 (by assumption)
    · rename_i hc
      rw [if_neg hc]
      obtain ⟨a, b⟩ := h.back l hb h0
      exact ⟨a, b, by simpa using hc⟩
theorem pureS_codec (v : α) : Codec (fun s => (v, s)) (fun _ => []) (fun y => y = v) where
  stays s hs := rfl
  fwd y r hy := by subst hy; rfl
  cut y k hy hk := by simp at hk
  back l hb h0 := ⟨rfl, rfl⟩
theorem Codec.map {S : RdS → α × RdS} {pr : α → List Int} {ok : α → Prop} (h : Codec S pr ok) (f : α → β) (g : β → α) {ok' : β → Prop} {pr' : β → List Int} (hg : ∀ y, ok' y → ok (g y) ∧ f (g y) = y) (hf : ∀ x, ok x → ok' (f x) ∧ g (f x) = x) (hp : ∀ y, ok' y → pr' y = pr (g y)) :
    Codec (fun s => (f (S s).1, (S s).2)) pr' ok' where
  stays s hs := h.stays s hs
  fwd y r hy := by rw [hp y hy, h.fwd _ r (hg y hy).1]; simp [(hg y hy).2]
  cut y k hy hk := by rw [hp y hy] at hk ⊢; exact h.cut _ k (hg y hy).1 hk
  back l hb h0 := by
    obtain ⟨a, b⟩ := h.back l hb h0
    obtain ⟨c, d⟩ := hf _ b
    refine ⟨?_, c⟩
    simp only; rw [hp _ c, d]; exact a
end

/-! ### numbers -/
theorem takeGo_fwd : ∀ (n : Nat) (i : Nat) (x y : Int) (r : List Int), y.toNat ≤ n → i ≤ 9 → 0 ≤ y → (i = 0 ∨ y ≠ 0) → y * 2 ^ (7 * i) < u64m → takeGo i x (putB y ++ r) = (x + y * 2 ^ (7 * i), ((i + (putB y).length : Nat) : Int), 0)
  | n, i, x, y, r, hn, hi, h0, hz, hb => by
    have hP : (0 : Int) < 2 ^ (7 * i) := Int.pow_pos (by decide)
    have h9 : i = 9 → y < 2 := by
      rintro rfl
      have e : (2 : Int) ^ (7 * 9) = 9223372036854775808 := by decide
      rw [e] at hb; simp only [u64m] at hb; omega
    by_cases hy : y < 128
    · rw [putB_lt hy, List.singleton_append, takeGo_cons, if_neg (fun h => by have := h9 h.1; omega), if_neg (by omega), if_neg (by omega)]
      rw [Int.emod_eq_of_lt h0 hy]; simp
    · rw [putB_ge hy, List.cons_append, takeGo_cons, if_neg (fun h => by have := h9 h.1; omega), if_pos (by omega)]
      have e1 : (y % 128 + 128) % 128 = y % 128 := by omega
      have hlt : i ≠ 9 := fun h => by have := h9 h; omega
      have hb' : y / 128 * 2 ^ (7 * (i + 1)) < u64m := by
        rw [pow7_step, ← Int.mul_assoc]
        exact Int.lt_of_le_of_lt (Int.mul_le_mul_of_nonneg_right (by omega) (Int.le_of_lt hP)) hb
      cases n with
      | zero => omega
      | succ n =>
        rw [e1, takeGo_fwd n (i + 1) _ (y / 128) r (by omega) (by omega) (by omega) (by omega) hb']
        simp only [List.length_cons, Prod.mk.injEq, and_true]
        constructor
        · rw [pow7_step]
          have : y % 128 * 2 ^ (7 * i) + y / 128 * (128 * 2 ^ (7 * i)) = (y % 128 + y / 128 * 128) * 2 ^ (7 * i) := by rw [Int.add_mul, Int.mul_assoc]
          rw [Int.add_assoc, this]
          congr 2; omega
        · push_cast; omega
theorem takeGo_cut : ∀ (n : Nat) (i : Nat) (x y : Int) (k : Nat), y.toNat ≤ n → i ≤ 9 → 0 ≤ y → y * 2 ^ (7 * i) < u64m → k < (putB y).length → takeGo i x ((putB y).take k) = (0, 0, 3)
  | n, i, x, y, 0, hn, hi, h0, hb, hk => by simp [takeGo]
  | n, i, x, y, k + 1, hn, hi, h0, hb, hk => by
    have hP : (0 : Int) < 2 ^ (7 * i) := Int.pow_pos (by decide)
    have h9 : i = 9 → y < 2 := by
      rintro rfl
      have e : (2 : Int) ^ (7 * 9) = 9223372036854775808 := by decide
      rw [e] at hb; simp only [u64m] at hb; omega
    by_cases hy : y < 128
    · rw [putB_lt hy] at hk; simp at hk
    · rw [putB_ge hy] at hk ⊢
      rw [List.take_succ_cons, takeGo_cons, if_neg (fun h => by have := h9 h.1; omega), if_pos (by omega)]
      have hlt : i ≠ 9 := fun h => by have := h9 h; omega
      have hb' : y / 128 * 2 ^ (7 * (i + 1)) < u64m := by
        rw [pow7_step, ← Int.mul_assoc]
        exact Int.lt_of_le_of_lt (Int.mul_le_mul_of_nonneg_right (by omega) (Int.le_of_lt hP)) hb
      cases n with
      | zero => omega
      | succ n => exact takeGo_cut n (i + 1) _ (y / 128) k (by omega) (by omega) (by omega) hb' (by simpa using hk)
theorem takeGo_back : ∀ (l : List Int) (i : Nat) (x : Int), Bytes l → i ≤ 9 → (takeGo i x l).2.2 = 0 →
    ∃ y r, 0 ≤ y ∧ (i = 0 ∨ y ≠ 0) ∧ y * 2 ^ (7 * i) < u64m ∧ l = putB y ++ r ∧ takeGo i x l = (x + y * 2 ^ (7 * i), ((i + (putB y).length : Nat) : Int), 0)
  | [], i, x, _, _, h => by simp [takeGo] at h
  | c :: t, i, x, hb, hi, h => by
    have hP : (0 : Int) < 2 ^ (7 * i) := Int.pow_pos (by decide)
    have hc := hb c (by simp)
    have hbt : Bytes t := fun y hy => hb y (by simp [hy])
    rw [takeGo_cons] at h ⊢
    split at h
    · simp at h
    · rename_i h9
      rw [if_neg h9]
      split at h
      · rename_i h128
        rw [if_pos h128]
        have hi9 : i ≠ 9 := by omega
        obtain ⟨y, r, h0, hz, hb', rfl, he⟩ := takeGo_back t (i + 1) _ hbt (by omega) h
        have hy0 : y ≠ 0 := by omega
        have hm : c % 128 = c - 128 := by omega
        rw [pow7_step] at he hb'
        refine ⟨c - 128 + 128 * y, r, by omega, .inr (by omega), ?_, ?_, ?_⟩
        · rw [Int.add_mul, Int.mul_comm 128 y, Int.mul_assoc]
          have h8 : (c - 128) * 2 ^ (7 * i) ≤ 127 * 2 ^ (7 * i) := Int.mul_le_mul_of_nonneg_right (by omega) (Int.le_of_lt hP)
          -- the part below is a multiple
          have hd : ∃ m : Int, u64m = m * (128 * 2 ^ (7 * i)) := by
            rcases (by omega : i = 0 ∨ i = 1 ∨ i = 2 ∨ i = 3 ∨ i = 4 ∨ i = 5 ∨ i = 6 ∨ i = 7 ∨ i = 8) with rfl | rfl | rfl | rfl | rfl | rfl | rfl | rfl | rfl
            · exact ⟨144115188075855872, by decide⟩
            · exact ⟨1125899906842624, by decide⟩
            · exact ⟨8796093022208, by decide⟩
            · exact ⟨68719476736, by decide⟩
            · exact ⟨536870912, by decide⟩
            · exact ⟨4194304, by decide⟩
            · exact ⟨32768, by decide⟩
            · exact ⟨256, by decide⟩
            · exact ⟨2, by decide⟩
          obtain ⟨m, hm'⟩ := hd
          rw [hm'] at hb' ⊢
          have hQ : (0 : Int) < 128 * 2 ^ (7 * i) := by omega
          have hym : y < m := Int.lt_of_mul_lt_mul_right hb' (Int.le_of_lt hQ)
          have h10 : (y + 1) * (128 * 2 ^ (7 * i)) ≤ m * (128 * 2 ^ (7 * i)) := Int.mul_le_mul_of_nonneg_right (by omega) (Int.le_of_lt hQ)
          rw [Int.add_mul, Int.one_mul] at h10
          omega
        · have hy : ¬ c - 128 + 128 * y < 128 := by omega
          rw [putB_ge hy, List.cons_append]
          have e1 : (c - 128 + 128 * y) % 128 + 128 = c := by omega
          have e2 : (c - 128 + 128 * y) / 128 = y := by omega
          rw [e1, e2]
        · rw [he]
          have hy : ¬ c - 128 + 128 * y < 128 := by omega
          have e2 : (c - 128 + 128 * y) / 128 = y := by omega
          rw [putB_ge hy, e2, hm]
          simp only [List.length_cons, Prod.mk.injEq, and_true]
          constructor
          · rw [Int.add_mul, Int.mul_comm 128 y, Int.mul_assoc, Int.add_assoc]
          · push_cast; omega
      · rename_i h128
        rw [if_neg h128]
        split at h
        · simp at h
        · rename_i hz
          rw [if_neg hz]
          have hc128 : c < 128 := by omega
          refine ⟨c, t, hc.1, by omega, ?_, by rw [putB_lt hc128]; rfl, ?_⟩
          · by_cases hi9 : i = 9
            · subst hi9
              have e : (2 : Int) ^ (7 * 9) = 9223372036854775808 := by decide
              rw [e]; simp only [u64m]; omega
            · have h8 : c * 2 ^ (7 * i) ≤ 127 * 2 ^ (7 * i) := Int.mul_le_mul_of_nonneg_right (by omega) (Int.le_of_lt hP)
              have h7 := pow7 (i := i + 1) (by omega)
              rw [pow7_step] at h7
              have e : (2 : Int) ^ 63 = 9223372036854775808 := by decide
              rw [e] at h7
              simp only [u64m]; omega
          · rw [putB_lt hc128, Int.emod_eq_of_lt hc.1 hc128]; simp
theorem takeB_fwd {y : Int} (r : List Int) (h0 : 0 ≤ y) (h1 : y < u64m) : takeB (putB y ++ r) = (y, ((putB y).length : Int), 0) := by
  have := takeGo_fwd y.toNat 0 0 y r (Nat.le_refl _) (by decide) h0 (.inl rfl) (by simpa using h1)
  rw [takeB, this]; simp
theorem takeB_cut {y : Int} {k : Nat} (h0 : 0 ≤ y) (h1 : y < u64m) (hk : k < (putB y).length) : takeB ((putB y).take k) = (0, 0, 3) :=
  takeGo_cut y.toNat 0 0 y k (Nat.le_refl _) (by decide) h0 (by simpa using h1) hk
theorem takeB_back {l : List Int} (hb : Bytes l) (h : (takeB l).2.2 = 0) : ∃ r, 0 ≤ (takeB l).1 ∧ (takeB l).1 < u64m ∧ l = putB (takeB l).1 ++ r ∧ (takeB l).2.1 = (putB (takeB l).1).length := by
  obtain ⟨y, r, h0, -, h1, hl, he⟩ := takeGo_back l 0 0 hb (by decide) h
  have e : takeB l = (y, ((putB y).length : Int), 0) := by rw [takeB, he]; simp
  rw [e]
  exact ⟨r, h0, by simpa using h1, hl, rfl⟩
theorem numS_codec : Codec numS putB (fun x => 0 ≤ x ∧ x < u64m) where
  stays s hs := by rw [numS_err hs]
  fwd v r hv := by rw [numS_ok, takeB_fwd r hv.1 hv.2]; simp
  cut v k hv hk := by rw [numS_ok, takeB_cut hv.1 hv.2 hk]
  back l hb h0 := by
    rw [numS_ok] at h0 ⊢
    obtain ⟨r, h1, h2, hl, hn⟩ := takeB_back hb h0
    refine ⟨?_, h1, h2⟩
    simp only
    rw [hn, Int.toNat_natCast]
    have : l.drop (putB (takeB l).1).length = r := by
      conv => lhs; rw [hl]
      rw [List.drop_left' (by rw [← hl])]
    rw [this]; exact hl

/-! ### words -/
theorem unword_word {x : Int} (h0 : 0 ≤ x) (h1 : x < u64m) : unwordB (wordB x) = x := by
  simp only [wordB, unwordB, u64m] at *
  omega
theorem word_unword {l : List Int} (hb : Bytes l) (hl : l.length = 8) : wordB (unwordB l) = l := by
  match l, hl with
  | [a, b, c, d, e, f, g, h], _ =>
    have ha := hb a (by simp); have hb' := hb b (by simp); have hc := hb c (by simp); have hd := hb d (by simp)
    have he := hb e (by simp); have hf := hb f (by simp); have hg := hb g (by simp); have hh := hb h (by simp)
    clear hb
    simp only [wordB, unwordB, List.cons.injEq, and_true, Int.mul_zero, Int.add_zero]
    refine ⟨?_, ?_, ?_, ?_, ?_, ?_, ?_, ?_⟩ <;> omega
theorem valueS_codec (has : Bool) : Codec (valueS has) (fun p => valB has p.2) (fun p => p.1 = has ∧ 0 ≤ p.2 ∧ p.2 < u64m ∧ (has = false → p.2 = 0)) where
  stays s hs := by rw [valueS_err _ hs]
  fwd p r hp := by
    obtain ⟨a, x⟩ := p
    obtain ⟨rfl, h0, h1, hz⟩ := hp
    simp only at *
    cases a with
    | false => rw [hz rfl]; simp [valueS, valB]
    | true =>
      have e : (wordB x ++ r).take 8 = wordB x := by simp [wordB]
      have e2 : (wordB x ++ r).drop 8 = r := by simp [wordB]
      have e3 : takeWordB (wordB x ++ r) = (x, 0) := by rw [takeWordB, if_neg (by simp [wordB]), e, unword_word h0 h1]
      simp only [valB, if_true]
      rw [valueS, if_neg (by simp), e3, if_neg (by simp), e2]
  cut p k hp hk := by
    obtain ⟨a, x⟩ := p
    obtain ⟨rfl, h0, h1, hz⟩ := hp
    simp only at *
    cases a with
    | false => simp [valB] at hk
    | true =>
      have hk8 : k < 8 := by simpa [valB, wordB] using hk
      have e3 : takeWordB ((wordB x).take k) = (0, 3) := by rw [takeWordB, if_pos (by rw [List.length_take]; omega)]
      simp [valueS, valB, e3]
  back l hb h0 := by
    cases has with
    | false => simp [valueS, valB, u64m]
    | true =>
      by_cases h8 : l.length < 8
      · simp [valueS, takeWordB, h8] at h0
      · have hl8 : (l.take 8).length = 8 := by simp; omega
        have hw := word_unword (hb.take 8) hl8
        have hr := unwordB_bound _ (hb.take 8)
        rw [hl8] at hr
        have e : valueS true (l, 0) = ((true, unwordB (l.take 8)), (l.drop 8, 0)) := by simp [valueS, takeWordB, h8]
        rw [e]
        refine ⟨?_, rfl, hr.1, ?_, by simp⟩
        · simp only [valB, if_true]; rw [hw, List.take_append_drop]
        · have := hr.2; simp only [u64m]; simpa using this
theorem flagsS_codec : Codec flagsS (fun f => [f]) (fun f => 0 ≤ f ∧ f ≤ 3) where
  stays s hs := by rw [flagsS_err hs]
  fwd f r hf := by simp [flagsS]; omega
  cut f k hf hk := by
    have : k = 0 := by simpa using hk
    subst this; simp [flagsS]
  back l hb h0 := by
    cases l with
    | nil => simp [flagsS] at h0
    | cons c r =>
      have hc := hb c (by simp)
      by_cases h3 : 3 < c
      · simp [flagsS, h3] at h0
      · simp [flagsS, h3]; omega

/-! ### a cell -/
/-- a cell that may follow -/
def okC (q : Option Int) (x : CellV) : Prop := x.Fits ∧ q.any (fun k => decide (x.key ≤ k)) = false ∧ 0 ≤ x.batch ∧ x.batch ≤ 1099511627776 ∧ valOk x.ph x.pb = true ∧ valOk x.ch x.cb = true
theorem flagsOf_bits (x : CellV) : (decide (flagsOf x % 2 = 1)) = x.ph ∧ (decide (2 ≤ flagsOf x)) = x.ch ∧ 0 ≤ flagsOf x ∧ flagsOf x ≤ 3 := by
  unfold flagsOf
  cases x.ph <;> cases x.ch <;> decide
theorem flags_of {f : Int} (h0 : 0 ≤ f) (h3 : f ≤ 3) {x : CellV} (h1 : x.ph = decide (f % 2 = 1)) (h2 : x.ch = decide (2 ≤ f)) : flagsOf x = f := by
  unfold flagsOf
  rw [h1, h2]
  rcases (by omega : f = 0 ∨ f = 1 ∨ f = 2 ∨ f = 3) with rfl | rfl | rfl | rfl <;> decide
def cellC (q : Option Int) : RdS → CellV × RdS :=
  bindS (checkS (fun k => q.any fun q => decide (k ≤ q)) 7 numS) fun k => bindS flagsS fun f => bindS (valueS (decide (f % 2 = 1))) fun p => bindS (valueS (decide (2 ≤ f))) fun c =>
    fun s => ((⟨k, p.1, p.2, c.1, c.2, IntKind.i64.wrap ((checkS (fun n => decide (1099511627776 < n)) 4 numS) s).1⟩ : CellV), ((checkS (fun n => decide (1099511627776 < n)) 4 numS) s).2)
theorem cellS_eqC (q : Option Int) (s : RdS) : cellS q s = cellC q s := by
  unfold cellS cellC bindS checkS
  simp only [decide_eq_true_eq]
def okVal (h : Bool) (p : Bool × Int) : Prop := p.1 = h ∧ 0 ≤ p.2 ∧ p.2 < u64m ∧ (h = false → p.2 = 0)
theorem valOk_okVal {h : Bool} {x : Int} (h0 : 0 ≤ x) (h1 : x < u64m) (hv : valOk h x = true) : okVal h (h, x) := ⟨rfl, h0, h1, fun e => by subst e; simpa [valOk] using hv⟩
theorem okVal.valOk {h : Bool} {p : Bool × Int} (hp : okVal h p) : Go.Sx.valOk p.1 p.2 = true := by
  obtain ⟨h1, -, -, h2⟩ := hp
  rw [h1]
  cases h with
  | true => rfl
  | false => simp [Go.Sx.valOk, h2 rfl]
theorem cellC_codec (q : Option Int) : Codec (cellC q) cellB (okC q) := by
  have hn := numS_codec.check (fun n => decide (1099511627776 < n)) (e := 4) (by decide)
  unfold cellC
  refine (numS_codec.check (fun k => q.any fun q => decide (k ≤ q)) (e := 7) (by decide)).bind (okT := fun k x => okC q x ∧ x.key = k) (prT := fun k x => [flagsOf x] ++ (valB x.ph x.pb ++ (valB x.ch x.cb ++ putB (x.batch % u64m)))) ?_ ?_ CellV.key (fun x hx => ⟨⟨⟨hx.1.k0, hx.1.k1⟩, hx.2.1⟩, hx, rfl⟩) (fun k x _ hx => ⟨hx.1, hx.2⟩) (fun x _ => rfl)
  · intro k s hs
    simp only [bindS, checkS]
    have e1 : (flagsS s).2 = s := by rw [flagsS_err hs]
    rw [e1]
    have e2 : ∀ b, (valueS b s).2 = s := fun b => by rw [valueS_err _ hs]
    rw [e2, e2]
    have e3 : (numS s).2 = s := by rw [numS_err hs]
    rw [e3, failS_err _ hs]; simp
  · rintro k ⟨⟨k0, k1⟩, kq⟩
    refine flagsS_codec.bind (okT := fun f x => okC q x ∧ x.key = k ∧ flagsOf x = f) (prT := fun f x => valB x.ph x.pb ++ (valB x.ch x.cb ++ putB (x.batch % u64m))) ?_ ?_ flagsOf (fun x hx => ⟨(flagsOf_bits x).2.2, hx.1, hx.2, rfl⟩) (fun f x _ hx => ⟨⟨hx.1, hx.2.1⟩, hx.2.2⟩) (fun x _ => rfl)
    · intro f s hs
      simp only [bindS, checkS]
      have e2 : ∀ b, (valueS b s).2 = s := fun b => by rw [valueS_err _ hs]
      rw [e2, e2]
      have e3 : (numS s).2 = s := by rw [numS_err hs]
      rw [e3, failS_err _ hs]; simp
    · rintro f ⟨f0, f3⟩
      refine (valueS_codec (decide (f % 2 = 1))).bind (okT := fun p x => okC q x ∧ x.key = k ∧ flagsOf x = f ∧ (x.ph, x.pb) = p) (prT := fun p x => valB x.ch x.cb ++ putB (x.batch % u64m)) ?_ ?_ (fun x => (x.ph, x.pb)) ?_ (fun p x _ hx => ⟨⟨hx.1, hx.2.1, hx.2.2.1⟩, hx.2.2.2⟩) ?_
      · intro p s hs
        simp only [bindS, checkS]
        have e2 : ∀ b, (valueS b s).2 = s := fun b => by rw [valueS_err _ hs]
        rw [e2]
        have e3 : (numS s).2 = s := by rw [numS_err hs]
        rw [e3, failS_err _ hs]; simp
      · intro p hp
        refine (valueS_codec (decide (2 ≤ f))).bind (okT := fun c x => okC q x ∧ x.key = k ∧ flagsOf x = f ∧ (x.ph, x.pb) = p ∧ (x.ch, x.cb) = c) (prT := fun c x => putB (x.batch % u64m)) ?_ ?_ (fun x => (x.ch, x.cb)) ?_ (fun c x _ hx => ⟨⟨hx.1, hx.2.1, hx.2.2.1, hx.2.2.2.1⟩, hx.2.2.2.2⟩) ?_
        · intro c s hs
          simp only [checkS]
          have e3 : (numS s).2 = s := by rw [numS_err hs]
          rw [e3, failS_err _ hs]; simp
        · intro c hc
          refine hn.map (f := fun n => (⟨k, p.1, p.2, c.1, c.2, IntKind.i64.wrap n⟩ : CellV)) (g := fun x => x.batch % u64m) ?_ ?_ (fun _ _ => rfl)
          · rintro x ⟨⟨hx, hq, hb0, hb1, hv1, hv2⟩, rfl, rfl, rfl, rfl⟩
            have e : x.batch % u64m = x.batch := Int.emod_eq_of_lt hb0 (by simp only [u64m]; omega)
            have e2 : IntKind.i64.wrap x.batch = x.batch := by rw [IntKind.wrap_i64]; omega
            refine ⟨⟨⟨by omega, by rw [e]; simp only [u64m]; omega⟩, by rw [e]; simpa using hb1⟩, ?_⟩
            simp only [e, e2]
          · rintro n ⟨⟨n0, n1⟩, n2⟩
            simp only [decide_eq_false_iff_not] at n2
            have e2 : IntKind.i64.wrap n = n := by rw [IntKind.wrap_i64]; omega
            have hp1 : p.1 = decide (f % 2 = 1) := hp.1
            have hc1 : c.1 = decide (2 ≤ f) := hc.1
            refine ⟨⟨⟨⟨k0, k1, hp.2.1, hp.2.2.1, hc.2.1, hc.2.2.1, by simp only [e2]; omega, by simp only [e2]; omega⟩, kq, by simp only [e2]; omega, by simp only [e2]; omega, okVal.valOk hp, okVal.valOk hc⟩, rfl, flags_of f0 f3 hp1 hc1, rfl, rfl⟩, ?_⟩
            simp only [e2]
            exact Int.emod_eq_of_lt n0 n1
        · rintro x ⟨hx, hk, hf, hp'⟩
          have hfb := flagsOf_bits x
          rw [hf] at hfb
          refine ⟨?_, hx, hk, hf, hp', rfl⟩
          rw [hfb.2.1]; exact valOk_okVal hx.1.c0 hx.1.c1 hx.2.2.2.2.2
        · rintro x ⟨hx, hk, hf, hp'⟩
          have hfb := flagsOf_bits x
          rw [hf] at hfb
          rw [hfb.2.1]
      · rintro x ⟨hx, hk, hf⟩
        have hfb := flagsOf_bits x
        rw [hf] at hfb
        refine ⟨?_, hx, hk, hf, rfl⟩
        rw [hfb.1]; exact valOk_okVal hx.1.p0 hx.1.p1 hx.2.2.2.2.1
      · rintro x ⟨hx, hk, hf⟩
        have hfb := flagsOf_bits x
        rw [hf] at hfb
        rw [hfb.1]
theorem cellS_codec (q : Option Int) : Codec (cellS q) cellB (okC q) := by
  have : cellS q = cellC q := funext (cellS_eqC q)
  rw [this]; exact cellC_codec q

/-! ### buckets -/
/-- cells that may stand in a bucket -/
def chainC : Option Int → List CellV → Prop
  | _, [] => True
  | q, x :: r => okC q x ∧ chainC (some x.key) r
theorem encGo_ok : ∀ (l : List CellV) (acc : List Int) (q : Option Int), chainC q l → encGo acc q l = (acc ++ l.flatMap cellB, 0)
  | [], acc, q, _ => by simp [encGo]
  | x :: r, acc, q, h => by
    obtain ⟨⟨hf, h1, h2, h3, h4, h5⟩, hr⟩ := h
    rw [encGo, if_neg (by rw [h1]; simp), if_neg (by rw [h4, h5]; simp; omega), encGo_ok r _ _ hr]
    simp
theorem encGo_inv : ∀ (l : List CellV) (acc : List Int) (q : Option Int), Cells l → (encGo acc q l).2 = 0 → chainC q l
  | [], acc, q, _, _ => trivial
  | x :: r, acc, q, hf, h => by
    rw [encGo] at h
    split at h
    · simp at h
    · rename_i h1
      split at h
      · simp at h
      · rename_i h2
        have h2' : ¬ x.batch < 0 ∧ ¬ 1099511627776 < x.batch ∧ ¬ valOk x.ph x.pb = false ∧ ¬ valOk x.ch x.cb = false := by
          refine ⟨fun h => h2 (.inl h), fun h => h2 (.inr (.inl h)), fun h => h2 (.inr (.inr (.inl h))), fun h => h2 (.inr (.inr (.inr h)))⟩
        exact ⟨⟨hf x (by simp), by simpa using h1, by omega, by omega, by simpa using h2'.2.2.1, by simpa using h2'.2.2.2⟩, encGo_inv r _ _ (fun y hy => hf y (by simp [hy])) h⟩
theorem encGo_err : ∀ (l : List CellV) (acc : List Int) (q : Option Int), (encGo acc q l).2 ≠ 0 → (encGo acc q l).1 = []
  | [], acc, q, h => by simp [encGo] at h
  | x :: r, acc, q, h => by
    rw [encGo] at h ⊢
    split
    · rfl
    · rename_i h1
      rw [if_neg h1] at h
      split
      · rfl
      · rename_i h2
        rw [if_neg h2] at h
        exact encGo_err r _ _ h
theorem encodeB_err (l : List CellV) (h : (encodeB l).2 ≠ 0) : (encodeB l).1 = [] := by
  unfold encodeB at h ⊢
  split
  · rfl
  · rename_i h1
    rw [if_neg h1] at h
    split
    · rfl
    · rename_i h2
      rw [if_neg h2] at h
      exact encGo_err _ _ _ h
theorem encodeB_inv {l : List CellV} (hf : Cells l) (h : (encodeB l).2 = 0) : l.length ≤ 16 ∧ chainC none l ∧ (encodeB l).1 = if l = [] then [] else putB l.length ++ l.flatMap cellB := by
  unfold encodeB at h ⊢
  split at h
  · simp at h
  · rename_i h16
    rw [if_neg h16]
    split at h
    · rename_i h0; subst h0; simp [chainC]
    · rename_i h0
      rw [if_neg h0, if_neg h0]
      have hc := encGo_inv _ _ _ hf h
      exact ⟨by omega, hc, by rw [encGo_ok _ _ _ hc]⟩
theorem cellB_bytes {x : CellV} (h : x.Fits) : Bytes (cellB x) := by
  have hw : ∀ y, Bytes (wordB y) := by
    intro y c hc
    simp only [wordB, List.mem_cons, List.not_mem_nil, or_false] at hc
    rcases hc with rfl | rfl | rfl | rfl | rfl | rfl | rfl | rfl <;> omega
  have hv : ∀ b y, Bytes (valB b y) := by
    intro b y; unfold valB; split
    · exact hw y
    · intro c hc; simp at hc
  have hp : ∀ y, 0 ≤ y → Bytes (putB y) := fun y hy => putB_byte y.toNat y (Nat.le_refl _) hy
  unfold cellB
  refine (hp _ h.k0).append (Bytes.append ?_ ((hv _ _).append ((hv _ _).append (hp _ (Int.emod_nonneg _ (by decide))))))
  intro c hc
  simp at hc; subst hc
  unfold flagsOf; cases x.ph <;> cases x.ch <;> decide
theorem encodeB_bytes {l : List CellV} (hf : Cells l) (h : (encodeB l).2 = 0) : Bytes (encodeB l).1 := by
  obtain ⟨-, -, e⟩ := encodeB_inv hf h
  rw [e]
  split
  · intro c hc; simp at hc
  · refine Bytes.append (putB_byte (l.length : Int).toNat _ (Nat.le_refl _) (by omega)) ?_
    intro c hc
    obtain ⟨x, hx, hc⟩ := List.mem_flatMap.1 hc
    exact cellB_bytes (hf x hx) c hc
theorem encodeB_ok {l : List CellV} (h16 : l.length ≤ 16) (hc : chainC none l) : encodeB l = (if l = [] then [] else putB l.length ++ l.flatMap cellB, 0) := by
  unfold encodeB
  rw [if_neg (by omega)]
  split
  · rfl
  · rw [encGo_ok _ _ _ hc]
theorem decGo_stays (k : Nat) (acc : List CellV) (s : RdS) (h : s.2 ≠ 0) : (decGo k acc s).2 = s := by rw [decGo_stop (.inr h)]
theorem cellS_stays {q : Option Int} {s : RdS} (h : s.2 ≠ 0) : (cellS q s).2 = s := (cellS_codec q).stays s h
theorem last_snoc (acc : List CellV) (x : CellV) : (acc ++ [x]).getLast?.map CellV.key = some x.key := by simp
theorem decGo_fwd : ∀ (l acc : List CellV) (r : List Int), chainC (acc.getLast?.map CellV.key) l → decGo l.length acc (l.flatMap cellB ++ r, 0) = (acc ++ l, (r, 0))
  | [], acc, r, _ => by simp [decGo]
  | x :: t, acc, r, h => by
    rw [List.length_cons, decGo, if_pos rfl, List.flatMap_cons, List.append_assoc, (cellS_codec _).fwd x _ h.1]
    simp only
    rw [decGo_fwd t (acc ++ [x]) r (by rw [last_snoc]; exact h.2)]
    simp
theorem decGo_cut : ∀ (l acc : List CellV) (k : Nat), chainC (acc.getLast?.map CellV.key) l → k < (l.flatMap cellB).length → (decGo l.length acc ((l.flatMap cellB).take k, 0)).2.2 = 3
  | [], acc, k, _, hk => by simp at hk
  | x :: t, acc, k, h, hk => by
    rw [List.length_cons, decGo, if_pos rfl]
    rw [List.flatMap_cons] at hk ⊢
    by_cases hlt : k < (cellB x).length
    · rw [List.take_append_of_le_length (Nat.le_of_lt hlt)]
      have h3 := (cellS_codec (acc.getLast?.map CellV.key)).cut x k h.1 hlt
      rw [decGo_stays _ _ _ (by rw [h3]; decide)]; exact h3
    · obtain ⟨j, rfl⟩ : ∃ j, k = (cellB x).length + j := ⟨k - (cellB x).length, by omega⟩
      rw [List.take_length_add_append, (cellS_codec _).fwd x _ h.1]
      exact decGo_cut t (acc ++ [x]) j (by rw [last_snoc]; exact h.2) (by simp only [List.length_append] at hk; omega)
theorem decGo_back : ∀ (k : Nat) (acc : List CellV) (l : List Int), Bytes l → (decGo k acc (l, 0)).2.2 = 0 →
    ∃ (cs : List CellV) (r : List Int), decGo k acc (l, 0) = (acc ++ cs, (r, 0)) ∧ cs.length = k ∧ l = cs.flatMap cellB ++ r ∧ chainC (acc.getLast?.map CellV.key) cs
  | 0, acc, l, _, _ => ⟨[], l, by simp [decGo], rfl, by simp, trivial⟩
  | k + 1, acc, l, hb, h => by
    rw [decGo, if_pos rfl] at h ⊢
    have hs0 : (cellS (acc.getLast?.map CellV.key) (l, 0)).2.2 = 0 := by
      apply Classical.byContradiction
      intro hne
      rw [decGo_stays _ _ _ hne] at h; exact hne h
    obtain ⟨e1, o1⟩ := (cellS_codec (acc.getLast?.map CellV.key)).back l hb hs0
    have hb1 : Bytes (cellS (acc.getLast?.map CellV.key) (l, 0)).2.1 := fun c hc => hb c (by rw [e1]; simp [hc])
    have e2 : (cellS (acc.getLast?.map CellV.key) (l, 0)).2 = ((cellS (acc.getLast?.map CellV.key) (l, 0)).2.1, 0) := Prod.ext rfl hs0
    rw [e2] at h ⊢
    obtain ⟨cs, r, he, hl, hfl, hc⟩ := decGo_back k _ _ hb1 h
    rw [last_snoc] at hc
    refine ⟨(cellS (acc.getLast?.map CellV.key) (l, 0)).1 :: cs, r, ?_, by simp [hl], ?_, o1, hc⟩
    · rw [he]; simp
    · rw [List.flatMap_cons, List.append_assoc, ← hfl]; exact e1
theorem decEnd_cut {r : List CellV × RdS} (h : r.2.2 = 3) : decEnd r = ([], 3) := by
  unfold decEnd
  by_cases h1 : r.2.1 = []
  · simp [h1, h]
  · simp [h1, failS, h]
theorem numS_fwd {x : Int} (h0 : 0 ≤ x) (h1 : x < u64m) (r : List Int) : numS (putB x ++ r, 0) = (x, (r, 0)) := numS_codec.fwd x r ⟨h0, h1⟩
theorem decStart_fwd {n : Nat} (h0 : 0 < n) (h16 : n ≤ 16) (r : List Int) : decStart (putB n ++ r) = ((n : Int), (r, 0)) := by
  rw [decStart, numS_fwd (by omega) (by simp only [u64m]; omega)]
  simp only
  rw [if_neg (by omega), if_neg (by omega)]
theorem decodeB_fwd {l : List CellV} (h0 : l ≠ []) (h16 : l.length ≤ 16) (hc : chainC none l) (r : List Int) : decodeB ((putB l.length ++ l.flatMap cellB) ++ r) = if r = [] then (l, 0) else ([], 5) := by
  have hne : (putB l.length ++ l.flatMap cellB) ++ r ≠ [] := by
    intro h
    have := putB_pos (l.length : Int)
    simp only [List.append_eq_nil_iff] at h
    rw [h.1.1] at this; simp at this
  rw [decodeB, if_neg hne, List.append_assoc, decStart_fwd (List.length_pos_iff.2 h0) h16]
  simp only [Int.toNat_natCast]
  rw [decGo_fwd l [] r hc]
  unfold decEnd
  by_cases hr : r = [] <;> simp [hr, failS]
theorem decodeB_cut {l : List CellV} {k : Nat} (h0 : l ≠ []) (h16 : l.length ≤ 16) (hc : chainC none l) (hk0 : 0 < k) (hk : k < (putB l.length ++ l.flatMap cellB).length) : decodeB ((putB l.length ++ l.flatMap cellB).take k) = ([], 3) := by
  have hpos : 0 < l.length := List.length_pos_iff.2 h0
  have hp1 : (putB (l.length : Int)).length = 1 := by rw [putB_lt (by omega)]; rfl
  have hne : (putB l.length ++ l.flatMap cellB).take k ≠ [] := by
    intro h
    have := congrArg List.length h
    rw [List.length_take] at this
    simp only [List.length_nil] at this; omega
  rw [decodeB, if_neg hne]
  obtain ⟨j, rfl⟩ : ∃ j, k = (putB (l.length : Int)).length + j := ⟨k - 1, by omega⟩
  rw [List.take_length_add_append, decStart_fwd hpos h16]
  simp only [Int.toNat_natCast]
  exact decEnd_cut (decGo_cut l [] j hc (by simp only [List.length_append] at hk; omega))
theorem decStart_back {l : List Int} (hb : Bytes l) (h : (decStart l).2.2 = 0) : ∃ (n : Nat) (r : List Int), 0 < n ∧ n ≤ 16 ∧ l = putB n ++ r ∧ decStart l = ((n : Int), (r, 0)) := by
  unfold decStart at h ⊢
  simp only at h ⊢
  have hs0 : (numS (l, 0)).2.2 = 0 := by
    apply Classical.byContradiction
    intro hne
    split at h
    · rw [failS_err _ hne] at h; exact hne h
    · split at h
      · rw [failS_err _ hne] at h; exact hne h
      · exact hne h
  obtain ⟨e1, h0, h1⟩ := numS_codec.back l hb hs0
  have hfail : ∀ (e : Int) (s : RdS), s.2 = 0 → (failS e s).2 = e := fun e s hs => by rw [failS, if_pos hs]
  split at h
  · rw [hfail _ _ hs0] at h; simp at h
  · rename_i hz
    split at h
    · rw [hfail _ _ hs0] at h; simp at h
    · rename_i h16
      rw [if_neg hz, if_neg h16]
      have hn : (((numS (l, 0)).1.toNat : Nat) : Int) = (numS (l, 0)).1 := Int.toNat_of_nonneg h0
      refine ⟨(numS (l, 0)).1.toNat, (numS (l, 0)).2.1, by omega, by omega, by rw [hn]; exact e1, ?_⟩
      rw [hn]
      exact Prod.ext rfl (Prod.ext rfl hs0)
theorem decEnd_bad {r : List CellV × RdS} (h : r.2.2 ≠ 0) : decEnd r = ([], r.2.2) := by
  unfold decEnd
  by_cases h1 : r.2.1 = [] <;> simp [h1, h, failS]
theorem decodeB_back {l : List Int} (hb : Bytes l) (h : (decodeB l).2 = 0) : encodeB (decodeB l).1 = (l, 0) ∧ Cells (decodeB l).1 ∧ chainC none (decodeB l).1 ∧ (decodeB l).1.length ≤ 16 := by
  by_cases h0 : l = []
  · subst h0; simp [decodeB, encodeB, Cells, chainC]
  rw [decodeB, if_neg h0] at h ⊢
  have hs0 : (decStart l).2.2 = 0 := by
    apply Classical.byContradiction
    intro hne
    rw [decEnd_bad (by rw [decGo_stays _ _ _ hne]; exact hne), decGo_stays _ _ _ hne] at h
    exact hne h
  obtain ⟨n, r, hn0, hn, hl, hs⟩ := decStart_back hb hs0
  rw [hs] at h ⊢
  simp only [Int.toNat_natCast] at h ⊢
  have hbr : Bytes r := fun c hc => hb c (by rw [hl]; simp [hc])
  have hg0 : (decGo n [] (r, 0)).2.2 = 0 := by
    apply Classical.byContradiction
    intro hne
    rw [decEnd_bad hne] at h
    exact hne h
  obtain ⟨cs, r', he, hlen, hfl, hc⟩ := decGo_back n [] r hbr hg0
  rw [he] at h ⊢
  have hr' : r' = [] := by
    apply Classical.byContradiction
    intro hne
    simp [decEnd, hne, failS] at h
  subst hr'
  have hd : decEnd ([] ++ cs, (([] : List Int), (0 : Int))) = (cs, 0) := by simp [decEnd]
  rw [hd]
  simp only
  have hcs : cs ≠ [] := by rintro rfl; simp at hlen; omega
  have hcl : ∀ (l : List CellV) (q : Option Int), chainC q l → Cells l := by
    intro l
    induction l with
    | nil => intro q _ x hx; simp at hx
    | cons y t ih =>
      intro q hq x hx
      rcases List.mem_cons.1 hx with rfl | hx
      · exact hq.1.1
      · exact ih _ hq.2 x hx
  refine ⟨?_, hcl _ _ hc, hc, by omega⟩
  rw [encodeB_ok (by omega) hc, if_neg hcs, hlen, hl, hfl]; simp
end Go.Sx
