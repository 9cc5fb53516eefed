/- Buckets in plain lists: cells, their bytes, what Encode and Decode answer, Find, Put, Drop. Conditions: none. -/
import Derived.Test.YtoljpkdokpinhaaSxO
namespace Go.Sx
set_option linter.unusedSimpArgs false
set_option linter.unusedVariables false

structure CellV where
  key : Int
  ph : Bool
  pb : Int
  ch : Bool
  cb : Int
  batch : Int
deriving DecidableEq

def CellV.vals (x : CellV) : List Value := [.int .u64 x.key, .bool x.ph, .int .u64 x.pb, .bool x.ch, .int .u64 x.cb, .int .i64 x.batch]
def Enc.cell : Enc CellV := ⟨6, CellV.vals, fun _ => rfl, by decide, fun x v h => by simp [CellV.vals] at h; rcases h with rfl | rfl | rfl | rfl | rfl | rfl <;> rfl⟩
/-- a cell that fits its type -/
structure CellV.Fits (x : CellV) : Prop where
  k0 : 0 ≤ x.key
  k1 : x.key < u64m
  p0 : 0 ≤ x.pb
  p1 : x.pb < u64m
  c0 : 0 ≤ x.cb
  c1 : x.cb < u64m
  b0 : -9223372036854775808 ≤ x.batch
  b1 : x.batch < 9223372036854775808
def Cells (l : List CellV) : Prop := ∀ x ∈ l, x.Fits
theorem Cells.get {l : List CellV} (h : Cells l) {k : Nat} {x : CellV} (hx : l[k]? = some x) : x.Fits := h x (List.mem_of_getElem? hx)

def valB (h : Bool) (b : Int) : List Int := if h then wordB b else []
def flagsOf (x : CellV) : Int := (if x.ph then 1 else 0) + (if x.ch then 2 else 0)
/-- a cell's bytes -/
def cellB (x : CellV) : List Int := putB x.key ++ ([flagsOf x] ++ (valB x.ph x.pb ++ (valB x.ch x.cb ++ putB (x.batch % u64m))))
theorem wordB_len (x : Int) : (wordB x).length = 8 := rfl
theorem valB_len (h : Bool) (x : Int) : (valB h x).length ≤ 8 := by unfold valB; split <;> simp [wordB_len]
theorem cellB_len {x : CellV} (h : x.Fits) : (cellB x).length ≤ 37 := by
  have h1 := putB_len10 h.k1
  have h2 : (putB (x.batch % u64m)).length ≤ 10 := putB_len10 (by have := Int.emod_lt_of_pos x.batch (show 0 < u64m by decide); omega)
  have h3 := valB_len x.ph x.pb
  have h4 := valB_len x.ch x.cb
  simp only [cellB, List.length_append, List.length_singleton]; omega

/-- the keys rise -/
def risingB : List CellV → Bool
  | [] => true
  | [_] => true
  | x :: y :: r => decide (x.key < y.key) && risingB (y :: r)
theorem risingB_iff : ∀ (l : List CellV), risingB l = true ↔ ∀ (i : Nat) (x y : CellV), l[i]? = some x → l[i + 1]? = some y → x.key < y.key
  | [] => by simp [risingB]
  | [_] => by simp [risingB]
  | x :: y :: r => by
    rw [risingB, Bool.and_eq_true, decide_eq_true_eq, risingB_iff (y :: r)]
    constructor
    · rintro ⟨h1, h2⟩ i u v hu hv
      cases i with
      | zero => simp at hu hv; subst hu; subst hv; exact h1
      | succ i => exact h2 i u v (by simpa using hu) (by simpa using hv)
    · intro h
      exact ⟨h 0 x y rfl rfl, fun i u v hu hv => h (i + 1) u v (by simpa using hu) (by simpa using hv)⟩
def valOk (h : Bool) (b : Int) : Bool := h || b == 0
def encGo (acc : List Int) : Option Int → List CellV → List Int × Int
  | _, [] => (acc, 0)
  | last, x :: r =>
    if last.any (fun k => decide (x.key ≤ k)) = true then ([], 7)
    else if x.batch < 0 ∨ 1099511627776 < x.batch ∨ valOk x.ph x.pb = false ∨ valOk x.ch x.cb = false then ([], 1)
    else encGo (acc ++ cellB x) (some x.key) r
def encodeB (l : List CellV) : List Int × Int := if 16 < l.length then ([], 6) else if l = [] then ([], 0) else encGo (putB l.length) none l

/-! ### Decode -/
abbrev RdS := List Int × Int
def failS (e : Int) (s : RdS) : RdS := if s.2 = 0 then (s.1, e) else s
def numS (s : RdS) : Int × RdS := if s.2 ≠ 0 then (0, s) else ((takeB s.1).1, (s.1.drop (takeB s.1).2.1.toNat, (takeB s.1).2.2))
def flagsS (s : RdS) : Int × RdS := if s.2 ≠ 0 then (0, s) else match s.1 with
  | [] => (0, ([], 3))
  | c :: r => if 3 < c then (0, (c :: r, 4)) else (c, (r, 0))
def valueS (has : Bool) (s : RdS) : (Bool × Int) × RdS := if has = false ∨ s.2 ≠ 0 then ((false, 0), s) else if (takeWordB s.1).2 ≠ 0 then ((false, 0), (s.1, (takeWordB s.1).2)) else ((true, (takeWordB s.1).1), (s.1.drop 8, 0))
def cellS (ahead : Option Int) (s : RdS) : CellV × RdS :=
  let r1 := numS s
  let s2 := if ahead.any (fun q => decide (r1.1 ≤ q)) = true then failS 7 r1.2 else r1.2
  let r3 := flagsS s2
  let r4 := valueS (decide (r3.1 % 2 = 1)) r3.2
  let r5 := valueS (decide (2 ≤ r3.1)) r4.2
  let r6 := numS r5.2
  let s7 := if 1099511627776 < r6.1 then failS 4 r6.2 else r6.2
  (⟨r1.1, r4.1.1, r4.1.2, r5.1.1, r5.1.2, IntKind.i64.wrap r6.1⟩, s7)
def decGo : Nat → List CellV → RdS → List CellV × RdS
  | 0, acc, s => (acc, s)
  | k + 1, acc, s => if s.2 = 0 then decGo k (acc ++ [(cellS (acc.getLast?.map CellV.key) s).1]) (cellS (acc.getLast?.map CellV.key) s).2 else (acc, s)
def decEnd (r : List CellV × RdS) : List CellV × Int :=
  let s := if r.2.1 = [] then r.2 else failS 5 r.2
  if s.2 = 0 then (r.1, 0) else ([], s.2)
def decStart (l : List Int) : Int × RdS := (((numS (l, 0)).1, if (numS (l, 0)).1 = 0 then failS 4 (numS (l, 0)).2 else if 16 < (numS (l, 0)).1 then failS 6 (numS (l, 0)).2 else (numS (l, 0)).2))
def decodeB (l : List Int) : List CellV × Int := if l = [] then ([], 0) else decEnd (decGo (decStart l).1.toNat [] (decStart l).2)

theorem takeGo_used : ∀ (l : List Int) (i : Nat) (x : Int), 0 ≤ (takeGo i x l).2.1 ∧ ((takeGo i x l).2.1 = 0 ∨ (takeGo i x l).2.1 ≤ i + l.length)
  | [], i, x => by simp [takeGo]
  | c :: r, i, x => by
    rw [takeGo_cons]
    have h := takeGo_used r (i + 1) (x + c % 128 * 2 ^ (7 * i))
    split
    · simp
    · split
      · simp only [List.length_cons]; omega
      · split
        · simp
        · simp only [List.length_cons]; omega
theorem takeB_used (l : List Int) : 0 ≤ (takeB l).2.1 ∧ (takeB l).2.1 ≤ l.length := by
  have := takeGo_used l 0 0
  unfold takeB; omega

/-- what is left is an end of what was -/
def EndsR (s s' : RdS) : Prop := ∃ k, s'.1 = s.1.drop k
theorem EndsR.refl (s : RdS) : EndsR s s := ⟨0, rfl⟩
theorem EndsR.trans {a b c : RdS} (h : EndsR a b) (k : EndsR b c) : EndsR a c := by obtain ⟨i, hi⟩ := h; obtain ⟨j, hj⟩ := k; exact ⟨i + j, by rw [hj, hi, List.drop_drop]⟩
theorem EndsR.bytes {s s' : RdS} (h : EndsR s s') (hb : Bytes s.1) : Bytes s'.1 := by obtain ⟨k, hk⟩ := h; rw [hk]; exact hb.drop k
theorem EndsR.len {s s' : RdS} (h : EndsR s s') : s'.1.length ≤ s.1.length := by obtain ⟨k, hk⟩ := h; rw [hk]; simp
theorem failS_ends (e : Int) (s : RdS) : EndsR s (failS e s) := by unfold failS; split <;> exact ⟨0, rfl⟩
theorem numS_ends (s : RdS) : EndsR s (numS s).2 := by unfold numS; split <;> first | exact ⟨0, rfl⟩ | exact ⟨_, rfl⟩
theorem flagsS_ends (s : RdS) : EndsR s (flagsS s).2 := by
  obtain ⟨l, e⟩ := s
  unfold flagsS; split
  · exact ⟨0, rfl⟩
  · cases l with
    | nil => exact ⟨0, rfl⟩
    | cons c r => simp only; split <;> first | exact ⟨0, rfl⟩ | exact ⟨1, rfl⟩
theorem valueS_ends (h : Bool) (s : RdS) : EndsR s (valueS h s).2 := by
  unfold valueS; split
  · exact ⟨0, rfl⟩
  · split
    · exact ⟨0, rfl⟩
    · exact ⟨8, rfl⟩
theorem flagsS_range {s : RdS} (hb : Bytes s.1) : 0 ≤ (flagsS s).1 ∧ (flagsS s).1 ≤ 3 := by
  obtain ⟨l, e⟩ := s
  unfold flagsS; split
  · simp
  · cases l with
    | nil => simp
    | cons c r =>
      have := hb c (by simp)
      simp only; split
      · simp
      · simp only; omega
theorem bits_flags {f : Int} (h0 : 0 ≤ f) (h3 : f ≤ 3) : (Go.bits .and .u8 f 1 != 0) = decide (f % 2 = 1) ∧ (Go.bits .and .u8 f 2 != 0) = decide (2 ≤ f) := by
  rcases (by omega : f = 0 ∨ f = 1 ∨ f = 2 ∨ f = 3) with rfl | rfl | rfl | rfl <;> exact ⟨by decide, by decide⟩
theorem getLast_get {α : Type} (l : List α) : l.getLast? = l[l.length - 1]? := List.getLast?_eq_getElem?
theorem cellS_ends (q : Option Int) (s : RdS) : EndsR s (cellS q s).2 := by
  unfold cellS
  simp only
  have h2 : EndsR s (if q.any (fun q => decide ((numS s).1 ≤ q)) = true then failS 7 (numS s).2 else (numS s).2) := (numS_ends s).trans (by split <;> first | exact failS_ends _ _ | exact .refl _)
  generalize (if q.any (fun q => decide ((numS s).1 ≤ q)) = true then failS 7 (numS s).2 else (numS s).2) = s2 at h2 ⊢
  split
  · exact (((h2.trans (flagsS_ends _)).trans (valueS_ends _ _)).trans (valueS_ends _ _)).trans ((numS_ends _).trans (failS_ends _ _))
  · exact (((h2.trans (flagsS_ends _)).trans (valueS_ends _ _)).trans (valueS_ends _ _)).trans (numS_ends _)

theorem takeGo_num : ∀ (l : List Int) (i : Nat) (x : Int), Bytes l → i ≤ 9 → 0 ≤ x → x < 2 ^ (7 * i) → 0 ≤ (takeGo i x l).1 ∧ (takeGo i x l).1 < u64m
  | [], i, x, _, _, _, _ => by simp [takeGo, u64m]
  | c :: r, i, x, hb, hi, h0, h1 => by
    rw [takeGo_cons]
    have hc := hb c (by simp)
    have hbr : Bytes r := fun y hy => hb y (by simp [hy])
    have hpp : (0 : Int) < 2 ^ (7 * i) := Int.pow_pos (by decide)
    have hq0 : 0 ≤ c % 128 * 2 ^ (7 * i) := Int.mul_nonneg (by omega) (Int.le_of_lt hpp)
    have hq1 : c % 128 * 2 ^ (7 * i) ≤ 127 * 2 ^ (7 * i) := Int.mul_le_mul_of_nonneg_right (by omega) (Int.le_of_lt hpp)
    have hs : x + c % 128 * 2 ^ (7 * i) < 2 ^ (7 * (i + 1)) := by rw [pow7_step]; omega
    split
    · simp [u64m]
    · rename_i h9
      split
      · have hi9 : i ≠ 9 := by omega
        exact takeGo_num r (i + 1) _ hbr (by omega) (by omega) hs
      · split
        · simp [u64m]
        · simp only
          refine ⟨by omega, ?_⟩
          by_cases hi9 : i = 9
          · subst hi9
            have : c % 128 ≤ 1 := by omega
            have h2 : c % 128 * 2 ^ (7 * 9) ≤ 1 * 2 ^ (7 * 9) := Int.mul_le_mul_of_nonneg_right this (by decide)
            have e : (2 : Int) ^ (7 * 9) = 9223372036854775808 := by decide
            rw [e] at h1 h2 ⊢
            simp only [u64m]; omega
          · have h8 : (2 : Int) ^ (7 * (i + 1)) ≤ 2 ^ 63 := pow7 (i := i + 1) (by omega)
            have e : (2 : Int) ^ 63 = 9223372036854775808 := by decide
            rw [e] at h8
            simp only [u64m]; omega
theorem takeB_num {l : List Int} (h : Bytes l) : 0 ≤ (takeB l).1 ∧ (takeB l).1 < u64m := takeGo_num l 0 0 h (by decide) (by decide) (by decide)
theorem numS_num {s : RdS} (h : Bytes s.1) : 0 ≤ (numS s).1 ∧ (numS s).1 < u64m := by
  unfold numS; split
  · simp [u64m]
  · exact takeB_num h
theorem decGo_stop {k : Nat} {acc : List CellV} {s : RdS} (h : k = 0 ∨ s.2 ≠ 0) : decGo k acc s = (acc, s) := by
  cases k with
  | zero => rfl
  | succ k => rw [decGo, if_neg (by simpa using h)]

/-! ### Find, Put, Drop -/
def findB (l : List CellV) (key : Int) : Nat × Bool :=
  if risingB l then ((l.takeWhile fun x => decide (x.key < key)).length, (l[(l.takeWhile fun x => decide (x.key < key)).length]?).any fun x => x.key == key) else (0, false)
def putC (l : List CellV) (c : CellV) : List CellV × Int :=
  if risingB l = false then ([], 7) else if (findB l c.key).2 = false ∧ 16 ≤ l.length then ([], 92)
  else if (findB l c.key).2 = true then (l.set (findB l c.key).1 c, 0) else (l.take (findB l c.key).1 ++ c :: l.drop (findB l c.key).1, 0)
def dropC (l : List CellV) (key : Int) : List CellV × Int := if risingB l = false then ([], 7) else (l.filter fun x => !(x.key == key), 0)

theorem takeWhile_len {α : Type} (p : α → Bool) : ∀ (l : List α) (k : Nat), k ≤ l.length → (∀ i x, i < k → l[i]? = some x → p x = true) → (∀ x, l[k]? = some x → p x = false) → (l.takeWhile p).length = k
  | [], k, hk, _, _ => by simp at hk; simp [hk]
  | y :: r, 0, _, _, h => by have := h y rfl; simp [List.takeWhile_cons, this]
  | y :: r, k + 1, hk, h1, h2 => by
    have hy := h1 0 y (by omega) rfl
    simp only [List.takeWhile_cons, hy, if_true, List.length_cons]
    rw [takeWhile_len p r k (by simpa using hk) (fun i x hi hx => h1 (i + 1) x (by omega) (by simpa using hx)) (fun x hx => h2 x (by simpa using hx))]
def CellV.eqb (x y : CellV) : Bool := (x.key == y.key) && ((x.ph == y.ph && (x.pb == y.pb && true)) && ((x.ch == y.ch && (x.cb == y.cb && true)) && (x.batch == y.batch && true)))
theorem CellV.eqb_iff (x y : CellV) : x.eqb y = decide (x = y) := by
  obtain ⟨a1, a2, a3, a4, a5, a6⟩ := x
  obtain ⟨b1, b2, b3, b4, b5, b6⟩ := y
  simp [CellV.eqb]
  grind


/-! ### a cell, step by step; an error stays -/
def cell4 (k : Int) (p c : Bool × Int) (s : RdS) : CellV × RdS := (⟨k, p.1, p.2, c.1, c.2, IntKind.i64.wrap (numS s).1⟩, if 1099511627776 < (numS s).1 then failS 4 (numS s).2 else (numS s).2)
def cell3 (k f : Int) (p : Bool × Int) (s : RdS) : CellV × RdS := cell4 k p (valueS (decide (2 ≤ f)) s).1 (valueS (decide (2 ≤ f)) s).2
def cell2 (k f : Int) (s : RdS) : CellV × RdS := cell3 k f (valueS (decide (f % 2 = 1)) s).1 (valueS (decide (f % 2 = 1)) s).2
def cell1 (k : Int) (s : RdS) : CellV × RdS := cell2 k (flagsS s).1 (flagsS s).2
theorem cellS_eq (q : Option Int) (s : RdS) : cellS q s = cell1 (numS s).1 (if q.any (fun q => decide ((numS s).1 ≤ q)) = true then failS 7 (numS s).2 else (numS s).2) := rfl
theorem failS_err {s : RdS} (e : Int) (h : s.2 ≠ 0) : failS e s = s := by rw [failS, if_neg h]
theorem numS_err {s : RdS} (h : s.2 ≠ 0) : numS s = (0, s) := by rw [numS, if_pos h]
theorem flagsS_err {s : RdS} (h : s.2 ≠ 0) : flagsS s = (0, s) := by rw [flagsS, if_pos h]
theorem valueS_err {s : RdS} (b : Bool) (h : s.2 ≠ 0) : valueS b s = ((false, 0), s) := by rw [valueS, if_pos (.inr h)]
theorem cell4_err {k : Int} {p c : Bool × Int} {s : RdS} (h : s.2 ≠ 0) : (cell4 k p c s).2 = s := by rw [cell4, numS_err h]; simp
theorem cell3_err {k f : Int} {p : Bool × Int} {s : RdS} (h : s.2 ≠ 0) : (cell3 k f p s).2 = s := by rw [cell3, valueS_err _ h]; exact cell4_err h
theorem cell2_err {k f : Int} {s : RdS} (h : s.2 ≠ 0) : (cell2 k f s).2 = s := by rw [cell2, valueS_err _ h]; exact cell3_err h
theorem cell1_err {k : Int} {s : RdS} (h : s.2 ≠ 0) : (cell1 k s).2 = s := by rw [cell1, flagsS_err h]; exact cell2_err h
theorem numS_ok (l : List Int) : numS (l, 0) = ((takeB l).1, (l.drop (takeB l).2.1.toNat, (takeB l).2.2)) := by rw [numS, if_neg (by simp)]
end Go.Sx
