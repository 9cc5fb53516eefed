/- Scripts printed and read again, read and printed again. Conditions: none. -/
import Derived.Test.YtbmmaibbiahkkaaGreatDoorSxSb
namespace Go.Sx
set_option linter.unusedSimpArgs false
open Go.Lib
def Af.Fits (s : Af) : Prop := (-9223372036854775808 ≤ s.kind ∧ s.kind < 9223372036854775808) ∧ (-9223372036854775808 ≤ s.node ∧ s.node < 9223372036854775808) ∧ (-9223372036854775808 ≤ s.n ∧ s.n < 9223372036854775808) ∧ s.r.Fits
structure ScrP.Fits (p : ScrP) : Prop where
 nums : ∀ n ∈ [p.n0, p.n1, p.n2, p.n3, p.n4, p.n5, p.n6], -9223372036854775808 ≤ n ∧ n < 9223372036854775808
 ops : ∀ o ∈ p.ops, o.Fits
def Clean (l : L8) : Prop := (10 : UInt8) ∉ l ∧ (32 : UInt8) ∉ l
theorem Dy {l : L8} (h : ∀ c ∈ l, 33 ≤ c.toNat) : Clean l := by
 constructor <;> intro hc <;> have := h _ hc <;> simp at this
theorem Jk (u : Nat) : Clean (decDigits u) := Dy fun c hc => by have := Ib u c hc; unfold isDg at this; omega
theorem B0 (v : Int) : Clean (itoa v) := by
 by_cases h : v < 0
 ·rw [itoa_neg h]
  refine Dy fun c hc => ?_
  rcases List.mem_cons.1 hc with rfl | hc
  ·decide
  ·have := Ib _ c hc; unfold isDg at this; omega
 ·rw [E1 h]; exact Jk _
theorem F0 (k b : Nat) : Clean (hexK k b) := Dy fun c hc => by
 obtain ⟨d, hd⟩ := Option.isSome_iff_exists.1 (Ig k b c hc)
 unfold hexV at hd
 split at hd
 ·omega
 ·split at hd
  ·omega
  ·cases hd
def words (w : L8) (as : List L8) : L8 := w ++ (as.map fun a => 32 :: a).flatten
theorem Jl (w : L8) : words w [] = w := by simp [words]
theorem Cw : ∀ (as : List L8) (w : L8), Clean w → (∀ a ∈ as, Clean a) → Ag 32 (words w as) = w :: as
 | [], w, h, _ => by rw [Jl]; exact De h.2
 | a :: as, w, h, ha => by
  have : words w (a :: as) = w ++ 32 :: words a as := by simp [words]
  rw [this, C6 _ h.2, Cw as a (ha a (by simp)) fun b hb => ha b (by simp [hb])]
theorem Gk : ∀ (as : List L8) (w : L8), Clean w → (∀ a ∈ as, Clean a) → (10 : UInt8) ∉ words w as
 | [], w, h, _ => by rw [Jl]; exact h.1
 | a :: as, w, h, ha => by
  have : words w (a :: as) = w ++ 32 :: words a as := by simp [words]
  rw [this]
  simp only [List.mem_append, List.mem_cons, not_or]
  exact ⟨h.1, by decide, Gk as a (ha a (by simp)) fun b hb => ha b (by simp [hb])⟩
def argA (c : UInt8) (s : Af) : L8 :=
 if c = 110 then itoa s.node else if c = 107 then itoa s.n else if c = 117 then decDigits s.r.key.toNat else hexK 16 s.r.val
theorem L0 (c : UInt8) (s : Af) : Clean (argA c s) := by
 unfold argA
 split
 ·exact B0 _
 ·split
  ·exact B0 _
  ·split
   ·exact Jk _
   ·exact F0 _ _
theorem L1 : ∀ x ∈ Df, x.2 = [] ∨ x.2 = [110] ∨ x.2 = [107] ∨ x.2 = [117] ∨ x.2 = [110, 107] ∨ x.2 = [110, 117, 118] := by decide
theorem K3 : ∀ x ∈ Df, Clean x.1 := by
 have : ∀ x ∈ Df, ∀ c ∈ x.1, 33 ≤ c.toNat := by decide
 exact fun x hx => Dy (this x hx)
theorem L2 : ∀ x ∈ Df, Dh x.1 = false := by decide
theorem F1 {k : Int} {w asks : L8} (h : Fs k = some (w, asks)) : (w, asks) ∈ Df ∧ 1 ≤ k ∧ k ≤ 11 ∧ Ee w = some (k.toNat, asks) := by
 unfold Fs at h
 split at h
 ·rename_i hk
  have hm := List.mem_of_getElem? h
  have hl : (k - 1).toNat < 11 := (List.getElem?_eq_some_iff.1 h).1
  refine ⟨hm, hk, by omega, ?_⟩
  have hk' : k = ((k - 1).toNat : Int) + 1 := by omega
  generalize (k - 1).toNat = i at h hl hk'
  subst hk'
  have : ∀ i : Fin 11, ∀ x, Df[i.val]? = some x → Ee x.1 = some (i.val + 1, x.2) := by decide
  have := this ⟨i, hl⟩ _ h
  rw [this]; rfl
 ·cases h
theorem K4 {w asks : L8} {k : Nat} (h : Ee w = some (k, asks)) : Fs k = some (w, asks) := by
 have : ∀ (l : List (L8 × L8)) (i k : Nat), Mq w l i = some (k, asks) → i ≤ k ∧ l[k - i]? = some (w, asks) := by
  intro l
  induction l with
  | nil => intro i k h; cases h
  | cons x r ih =>
   obtain ⟨a, b⟩ := x
   intro i k h
   unfold Mq at h
   split at h
   ·rename_i hw; cases h; subst hw; simp
   ·obtain ⟨h1, h2⟩ := ih (i + 1) k h
    refine ⟨by omega, ?_⟩
    rw [show k - i = (k - (i + 1)) + 1 from by omega]; simpa using h2
 obtain ⟨h1, h2⟩ := this Df 1 k h
 unfold Fs
 rw [if_pos (by omega), show ((k : Int) - 1).toNat = k - 1 from by omega]; exact h2
theorem M7 {asks : L8} (h : asks = [] ∨ asks = [110] ∨ asks = [107] ∨ asks = [117] ∨ asks = [110, 107] ∨ asks = [110, 117, 118]) (s : Af) : (emit asks s).1 = ((asks.map fun c => argA c s).map fun a => 32 :: a).flatten := by
 rcases h with rfl | rfl | rfl | rfl | rfl | rfl <;> simp [emit, B7, argA]
theorem Oe {asks : L8} (h : asks = [] ∨ asks = [110] ∨ asks = [107] ∨ asks = [117] ∨ asks = [110, 107] ∨ asks = [110, 117, 118]) {s : Af} {k : Nat} (hk : s.kind = k) (hf : s.Fits) (hb : (emit asks s).2.bare) : Cd asks (asks.map fun c => argA c s) (step0 k) = some s := by
 obtain ⟨kind, node, n, ⟨key, val⟩⟩ := s
 obtain ⟨h1, ⟨h2, h2'⟩, ⟨h3, h3'⟩, ⟨⟨h4, h4'⟩, h5⟩⟩ := hf
 simp only at hk h2 h2' h3 h3' h4 h4' h5
 subst hk
 have e1 : numL (itoa node) = some node := Dw ⟨h2, by omega⟩
 have e2 : numL (itoa n) = some n := Dw ⟨h3, by omega⟩
 have e3 : keyL (decDigits key.toNat) = some key.toNat := Ie (by simp only [u64m] at h4'; omega)
 have e4 : fltL (hexK 16 val) = some val := Kw h5
 rcases h with rfl | rfl | rfl | rfl | rfl | rfl <;> simp [emit, B7, Af.bare] at hb <;> simp [Cd, setA, argA, step0, e1, e2, e3, e4, hb] <;> omega
theorem M8 {s : Af} {l : L8} (hf : s.Fits) (h : stepT s = .ok l) : ∃ w as, l = words w as ∧ Clean w ∧ (∀ a ∈ as, Clean a) ∧ w ≠ opW ∧ Dh l = false ∧ Ft (w :: as) = .ok s := by
 unfold stepT at h
 split at h
 ·cases h
 ·rename_i w asks hw
  split at h
  ·rename_i hb
   cases h
   obtain ⟨hm, h1, h11, ho⟩ := F1 hw
   have hA := L1 _ hm
   have hC := K3 _ hm
   have hne : ∀ x ∈ Df, x.1 ≠ opW := by decide
   refine ⟨w, asks.map fun c => argA c s, ?_, hC, fun a ha => ?_, hne _ hm, ?_, ?_⟩
   ·rw [M7 hA]; rfl
   ·obtain ⟨c, -, rfl⟩ := List.mem_map.1 ha
    exact L0 _ _
   ·have := L2 _ hm
    cases w with
    | nil => cases this
    | cons x r => simpa [Dh] using this
   ·unfold Ft
    simp only [ho]
    rw [Oe hA (k := s.kind.toNat) (by omega) hf hb]
  ·cases h
def nums (p : ScrP) : List Int := [p.n0, p.n1, p.n2, p.n3, p.n4, p.n5, p.n6]
def Jm (p : ScrP) : L8 := words Cp ((nums p).map itoa)
theorem Of (p : ScrP) : Dx p = Jm p ++ [10] := by unfold Dx Jm words nums; simp
theorem Og (o : OpV) : opT o = words opW [itoa o.kind, itoa o.n, hexK 16 o.x] := by simp [opT, words]
theorem Hc : Clean Cp := Dy (by decide)
theorem Jn : Clean opW := Dy (by decide)
theorem M9 {p : ScrP} (h : p.Fits) : E3 ((nums p).map itoa) = some { p with ops := [] } := by
 have e : ∀ n ∈ nums p, numL (itoa n) = some n := fun n hn => Dw (by have := h.nums n hn; omega)
 simp only [nums, List.map_cons, List.map_nil, E3]
 simp only [nums, List.forall_mem_cons] at e
 obtain ⟨a, b, c, d, f, g, i, -⟩ := e
 rw [a, b, c, d, f, g, i]
theorem Po {o : OpV} (h : o.Fits) : opL [itoa o.kind, itoa o.n, hexK 16 o.x] = some o := by
 obtain ⟨⟨a, b⟩, ⟨c, d⟩, e⟩ := h
 unfold opL
 simp only
 rw [Dw ⟨a, by omega⟩, Dw ⟨c, by omega⟩, Kw e]
def B8 (ls : List L8) : L8 := (ls.map fun l => l ++ [10]).flatten
theorem K5 (a b : List L8) : B8 (a ++ b) = B8 a ++ B8 b := by simp [B8]
theorem Ef (a : L8) (b : List L8) : B8 (a :: b) = a ++ 10 :: B8 b := by simp [B8]
theorem E4 : ∀ (ls : List L8) (z : L8), (∀ l ∈ ls, (10 : UInt8) ∉ l) → Ag 10 (B8 ls ++ z) = ls ++ Ag 10 z
 | [], z, _ => rfl
 | l :: ls, z, h => by
  rw [Ef, List.append_assoc, List.cons_append, C6 _ (h l (by simp)), E4 ls z fun x hx => h x (by simp [hx])]; rfl
theorem Di : ∀ (a b : List L8) (n : Nat) (st : ScrS), Ap n st (a ++ b) = match Ap n st a with | .error e => .error e | .ok st' => Ap (n + a.length) st' b
 | [], b, n, st => rfl
 | l :: a, b, n, st => by
  simp only [List.cons_append, Ap]
  split
  ·rw [Di a b (n + 1) st, show n + 1 + a.length = n + (l :: a).length from by simp; omega]
  ·split
   ·rfl
   ·rename_i st' _
    rw [Di a b (n + 1) st', show n + 1 + a.length = n + (l :: a).length from by simp; omega]
theorem Hd : ∀ (steps : List Af) (t : L8), (∀ s ∈ steps, s.Fits) → A5 steps = .ok t → ∃ sl : List L8, t = B8 sl ∧ sl.length = steps.length ∧ (∀ l ∈ sl, (10 : UInt8) ∉ l ∧ Dh l = false) ∧
  ∀ (p : ScrP) (done : List Af) (n : Nat), done.length + steps.length ≤ 4096 → Ap n ⟨some p, done⟩ sl = .ok ⟨some p, done ++ steps⟩
 | [], t, _, h => by
  simp only [A5, Except.ok.injEq] at h
  exact ⟨[], h.symm, rfl, fun l hl => (by simp at hl), fun p done n _ => by simp [Ap]⟩
 | s :: r, t, hf, h => by
  simp only [A5] at h
  split at h
  ·cases h
  ·rename_i a ha
   split at h
   ·cases h
   ·rename_i b hb
    cases h
    obtain ⟨sl, rfl, h1, h2, h3⟩ := Hd r b (fun x hx => hf x (by simp [hx])) hb
    obtain ⟨w, as, e, c1, c2, c3, c4, c5⟩ := M8 (hf s (by simp)) ha
    refine ⟨a :: sl, by rw [Ef], by simp [h1], fun l hl => ?_, fun p done n hn => ?_⟩
    ·rcases List.mem_cons.1 hl with rfl | hl
     ·exact ⟨by rw [e]; exact Gk as w c1 c2, c4⟩
     ·exact h2 l hl
    ·simp only [List.length_cons] at hn
     simp only [Ap]
     rw [c4]
     simp only [Bool.false_eq_true, if_false]
     have : Cj ⟨some p, done⟩ a = .ok ⟨some p, done ++ [s]⟩ := by
      unfold Cj
      rw [e, Cw as w c1 c2]
      simp only
      rw [if_neg (fun x => c3 x.1), if_neg (by omega), c5]
     rw [this]
     simp only
     rw [h3 p (done ++ [s]) (n + 1) (by simp; omega)]; simp
theorem Jo : ∀ (ops : List OpV) (p : ScrP) (n : Nat), (∀ o ∈ ops, o.Fits) → Ap n ⟨some p, []⟩ (ops.map opT) = .ok ⟨some { p with ops := p.ops ++ ops }, []⟩
 | [], p, n, _ => by simp [Ap]
 | o :: r, p, n, hf => by
  have hs : Dh (opT o) = false := rfl
  have : Cj ⟨some p, []⟩ (opT o) = .ok ⟨some { p with ops := p.ops ++ [o] }, []⟩ := by
   unfold Cj
   rw [Og, Cw _ _ Jn (by
    intro a ha
    simp only [List.mem_cons, List.mem_nil_iff, or_false] at ha
    rcases ha with rfl | rfl | rfl
    ·exact B0 _
    ·exact B0 _
    ·exact F0 _ _)]
   simp only
   simp only [and_self, if_true]
   rw [Po (hf o (by simp))]
  simp only [List.map_cons, Ap, hs, Bool.false_eq_true, if_false, this]
  rw [Jo r _ _ fun x hx => hf x (by simp [hx])]; simp
theorem K6 {p : ScrP} {steps : List Af} {t : L8} (hp : p.Fits) (hs : ∀ s ∈ steps, s.Fits) (h : Bm p steps = .ok t) : ∃ ls : List L8, t = B8 ls ∧ (∀ l ∈ ls, (10 : UInt8) ∉ l ∧ Dh l = false) ∧ ls ≠ [] ∧
  (∀ n, Ap n ⟨none, []⟩ ls = .ok ⟨some p, steps⟩) ∧ ls.length = 1 + p.ops.length + steps.length ∧ t.length ≤ 262144 ∧ steps.length ≤ 4096 := by
 unfold Bm at h
 split at h
 ·cases h
 ·rename_i h4
  split at h
  ·cases h
  ·rename_i b hb
   split at h
   ·cases h
   ·rename_i hlen
    cases h
    obtain ⟨sl, rfl, h1, h2, h3⟩ := Hd steps b hs hb
    have hc : ∀ a ∈ (nums p).map itoa, Clean a := fun a ha => by obtain ⟨n, -, rfl⟩ := List.mem_map.1 ha; exact B0 n
    refine ⟨Jm p :: (p.ops.map opT ++ sl), ?_, fun l hl => ?_, by simp, fun n => ?_, by simp [h1]; omega, by omega, by omega⟩
    ·rw [Ef, K5, Of]; simp [B8, opsT, List.map_map, Function.comp_def]
    ·rcases List.mem_cons.1 hl with rfl | hl
     ·exact ⟨Gk _ _ Hc hc, rfl⟩
     ·rcases List.mem_append.1 hl with hl | hl
      ·obtain ⟨o, -, rfl⟩ := List.mem_map.1 hl
       refine ⟨?_, rfl⟩
       rw [Og]
       refine Gk _ _ Jn fun a ha => ?_
       simp only [List.mem_cons, List.mem_nil_iff, or_false] at ha
       rcases ha with rfl | rfl | rfl
       ·exact B0 _
       ·exact B0 _
       ·exact F0 _ _
      ·exact h2 l hl
    ·have e0 : Dh (Jm p) = false := rfl
     have e1 : Cj ⟨none, []⟩ (Jm p) = .ok ⟨some { p with ops := [] }, []⟩ := by
      unfold Cj Jm
      rw [Cw _ _ Hc hc]
      simp only
      simp only [if_true]
      rw [M9 hp]
     simp only [Ap, e0, Bool.false_eq_true, if_false, e1]
     rw [Di, Jo _ _ _ hp.ops]
     simp only [List.nil_append]
     rw [h3 _ [] _ (by simp; omega)]; rfl
theorem back {p : ScrP} {steps : List Af} {t : L8} (hp : p.Fits) (hs : ∀ s ∈ steps, s.Fits) (h : Bm p steps = .ok t) : B6 t = .ok (p, steps) := by
 obtain ⟨ls, rfl, h1, h2, h3, -, h5, h6⟩ := K6 hp hs h
 unfold B6
 rw [if_neg (by omega)]
 have e := E4 ls [] fun l hl => (h1 l hl).1
 rw [List.append_nil] at e
 rw [e, Di, h3 0]
 simp [Ag, Ap, Dh]
end Go.Sx
