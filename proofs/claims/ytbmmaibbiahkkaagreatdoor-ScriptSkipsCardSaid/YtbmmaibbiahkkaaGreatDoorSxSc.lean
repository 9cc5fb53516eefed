/- Scripts printed and read again, read and printed again. Conditions: none. -/
import Derived.Test.YtbmmaibbiahkkaaGreatDoorSxSb
namespace Go.Sx
set_option linter.unusedSimpArgs false
open Go.Lib
def Ah.Fits (s : Ah) : Prop := (-9223372036854775808 ≤ s.kind ∧ s.kind < 9223372036854775808) ∧ (-9223372036854775808 ≤ s.node ∧ s.node < 9223372036854775808) ∧ (-9223372036854775808 ≤ s.n ∧ s.n < 9223372036854775808) ∧ s.r.Fits
structure ScrP.Fits (p : ScrP) : Prop where
 nums : ∀ n ∈ [p.n0, p.n1, p.n2, p.n3, p.n4, p.n5, p.n6], -9223372036854775808 ≤ n ∧ n < 9223372036854775808
 ops : ∀ o ∈ p.ops, o.Fits
def Clean (l : L8) : Prop := (10 : UInt8) ∉ l ∧ (32 : UInt8) ∉ l
theorem D1 {l : L8} (h : ∀ c ∈ l, 33 ≤ c.toNat) : Clean l := by
 constructor <;> intro hc <;> have := h _ hc <;> simp at this
theorem Js (u : Nat) : Clean (decDigits u) := D1 fun c hc => by have := Ik u c hc; unfold isDg at this; omega
theorem B3 (v : Int) : Clean (itoa v) := by
 by_cases h : v < 0
 ·rw [itoa_neg h]
  refine D1 fun c hc => ?_
  rcases List.mem_cons.1 hc with rfl | hc
  ·decide
  ·have := Ik _ c hc; unfold isDg at this; omega
 ·rw [E2 h]; exact Js _
theorem F2 (k b : Nat) : Clean (hexK k b) := D1 fun c hc => by
 obtain ⟨d, hd⟩ := Option.isSome_iff_exists.1 (Ip k b c hc)
 unfold hexV at hd
 split at hd
 ·omega
 ·split at hd
  ·omega
  ·cases hd
def words (w : L8) (as : List L8) : L8 := w ++ (as.map fun a => 32 :: a).flatten
theorem Jt (w : L8) : words w [] = w := by simp [words]
theorem Cw : ∀ (as : List L8) (w : L8), Clean w → (∀ a ∈ as, Clean a) → Af 32 (words w as) = w :: as
 | [], w, h, _ => by rw [Jt]; exact Df h.2
 | a :: as, w, h, ha => by
  have : words w (a :: as) = w ++ 32 :: words a as := by simp [words]
  rw [this, C7 _ h.2, Cw as a (ha a (by simp)) fun b hb => ha b (by simp [hb])]
theorem Gm : ∀ (as : List L8) (w : L8), Clean w → (∀ a ∈ as, Clean a) → (10 : UInt8) ∉ words w as
 | [], w, h, _ => by rw [Jt]; exact h.1
 | a :: as, w, h, ha => by
  have : words w (a :: as) = w ++ 32 :: words a as := by simp [words]
  rw [this]
  simp only [List.mem_append, List.mem_cons, not_or]
  exact ⟨h.1, by decide, Gm as a (ha a (by simp)) fun b hb => ha b (by simp [hb])⟩
def argA (c : UInt8) (s : Ah) : L8 :=
 if c = 110 then itoa s.node else if c = 107 then itoa s.n else if c = 117 then decDigits s.r.key.toNat else hexK 16 s.r.val
theorem Mc (c : UInt8) (s : Ah) : Clean (argA c s) := by
 unfold argA
 split
 ·exact B3 _
 ·split
  ·exact B3 _
  ·split
   ·exact Js _
   ·exact F2 _ _
theorem Md : ∀ x ∈ Dh, x.2 = [] ∨ x.2 = [110] ∨ x.2 = [107] ∨ x.2 = [117] ∨ x.2 = [110, 107] ∨ x.2 = [110, 117, 118] := by decide
theorem Lc : ∀ x ∈ Dh, Clean x.1 := by
 have : ∀ x ∈ Dh, ∀ c ∈ x.1, 33 ≤ c.toNat := by decide
 exact fun x hx => D1 (this x hx)
theorem Me : ∀ x ∈ Dh, Cp x.1 = false := by decide
theorem F3 {k : Int} {w asks : L8} (h : Ft k = some (w, asks)) : (w, asks) ∈ Dh ∧ 1 ≤ k ∧ k ≤ 11 ∧ Ef w = some (k.toNat, asks) := by
 unfold Ft at h
 split at h
 ·rename_i hk
  have hm := List.mem_of_getElem? h
  have hl : (k - 1).toNat < 11 := (List.getElem?_eq_some_iff.1 h).1
  refine ⟨hm, hk, by omega, ?_⟩
  have hk' : k = ((k - 1).toNat : Int) + 1 := by omega
  generalize (k - 1).toNat = i at h hl hk'
  subst hk'
  have : ∀ i : Fin 11, ∀ x, Dh[i.val]? = some x → Ef x.1 = some (i.val + 1, x.2) := by decide
  have := this ⟨i, hl⟩ _ h
  rw [this]; rfl
 ·cases h
theorem Ld {w asks : L8} {k : Nat} (h : Ef w = some (k, asks)) : Ft k = some (w, asks) := by
 have : ∀ (l : List (L8 × L8)) (i k : Nat), M1 w l i = some (k, asks) → i ≤ k ∧ l[k - i]? = some (w, asks) := by
  intro l
  induction l with
  | nil => intro i k h; cases h
  | cons x r ih =>
   obtain ⟨a, b⟩ := x
   intro i k h
   unfold M1 at h
   split at h
   ·rename_i hw; cases h; subst hw; simp
   ·obtain ⟨h1, h2⟩ := ih (i + 1) k h
    refine ⟨by omega, ?_⟩
    rw [show k - i = (k - (i + 1)) + 1 from by omega]; simpa using h2
 obtain ⟨h1, h2⟩ := this Dh 1 k h
 unfold Ft
 rw [if_pos (by omega), show ((k : Int) - 1).toNat = k - 1 from by omega]; exact h2
theorem Nk {asks : L8} (h : asks = [] ∨ asks = [110] ∨ asks = [107] ∨ asks = [117] ∨ asks = [110, 107] ∨ asks = [110, 117, 118]) (s : Ah) : (emit asks s).1 = ((asks.map fun c => argA c s).map fun a => 32 :: a).flatten := by
 rcases h with rfl | rfl | rfl | rfl | rfl | rfl <;> simp [emit, B8, argA]
theorem Oo {asks : L8} (h : asks = [] ∨ asks = [110] ∨ asks = [107] ∨ asks = [117] ∨ asks = [110, 107] ∨ asks = [110, 117, 118]) {s : Ah} {k : Nat} (hk : s.kind = k) (hf : s.Fits) (hb : (emit asks s).2.bare) : Cd asks (asks.map fun c => argA c s) (step0 k) = some s := by
 obtain ⟨kind, node, n, ⟨key, val⟩⟩ := s
 obtain ⟨h1, ⟨h2, h2'⟩, ⟨h3, h3'⟩, ⟨⟨h4, h4'⟩, h5⟩⟩ := hf
 simp only at hk h2 h2' h3 h3' h4 h4' h5
 subst hk
 have e1 : numL (itoa node) = some node := Dz ⟨h2, by omega⟩
 have e2 : numL (itoa n) = some n := Dz ⟨h3, by omega⟩
 have e3 : keyL (decDigits key.toNat) = some key.toNat := Im (by simp only [u64m] at h4'; omega)
 have e4 : fltL (hexK 16 val) = some val := K5 h5
 rcases h with rfl | rfl | rfl | rfl | rfl | rfl <;> simp [emit, B8, Ah.bare] at hb <;> simp [Cd, setA, argA, step0, e1, e2, e3, e4, hb] <;> omega
theorem Nl {s : Ah} {l : L8} (hf : s.Fits) (h : stepT s = .ok l) : ∃ w as, l = words w as ∧ Clean w ∧ (∀ a ∈ as, Clean a) ∧ w ≠ opW ∧ Cp l = false ∧ Di (w :: as) = .ok s := by
 unfold stepT at h
 split at h
 ·cases h
 ·rename_i w asks hw
  split at h
  ·rename_i hb
   cases h
   obtain ⟨hm, h1, h11, ho⟩ := F3 hw
   have hA := Md _ hm
   have hC := Lc _ hm
   have hne : ∀ x ∈ Dh, x.1 ≠ opW := by decide
   refine ⟨w, asks.map fun c => argA c s, ?_, hC, fun a ha => ?_, hne _ hm, ?_, ?_⟩
   ·rw [Nk hA]; rfl
   ·obtain ⟨c, -, rfl⟩ := List.mem_map.1 ha
    exact Mc _ _
   ·have := Me _ hm
    cases w with
    | nil => cases this
    | cons x r => simpa [Cp] using this
   ·unfold Di
    simp only [ho]
    rw [Oo hA (k := s.kind.toNat) (by omega) hf hb]
  ·cases h
def nums (p : ScrP) : List Int := [p.n0, p.n1, p.n2, p.n3, p.n4, p.n5, p.n6]
def Ju (p : ScrP) : L8 := words Ck ((nums p).map itoa)
theorem Oq (p : ScrP) : C8 p = Ju p ++ [10] := by unfold C8 Ju words nums; simp
theorem Ot (o : OpV) : opT o = words opW [itoa o.kind, itoa o.n, hexK 16 o.x] := by simp [opT, words]
theorem Hj : Clean Ck := D1 (by decide)
theorem Jv : Clean opW := D1 (by decide)
theorem Nm {p : ScrP} (h : p.Fits) : E3 ((nums p).map itoa) = some { p with ops := [] } := by
 have e : ∀ n ∈ nums p, numL (itoa n) = some n := fun n hn => Dz (by have := h.nums n hn; omega)
 simp only [nums, List.map_cons, List.map_nil, E3]
 simp only [nums, List.forall_mem_cons] at e
 obtain ⟨a, b, c, d, f, g, i, -⟩ := e
 rw [a, b, c, d, f, g, i]
theorem P3 {o : OpV} (h : o.Fits) : opL [itoa o.kind, itoa o.n, hexK 16 o.x] = some o := by
 obtain ⟨⟨a, b⟩, ⟨c, d⟩, e⟩ := h
 unfold opL
 simp only
 rw [Dz ⟨a, by omega⟩, Dz ⟨c, by omega⟩, K5 e]
def Ae (ls : List L8) : L8 := (ls.map fun l => l ++ [10]).flatten
theorem Hk (a b : List L8) : Ae (a ++ b) = Ae a ++ Ae b := by simp [Ae]
theorem A9 (a : L8) (b : List L8) : Ae (a :: b) = a ++ 10 :: Ae b := by simp [Ae]
theorem E4 : ∀ (ls : List L8) (z : L8), (∀ l ∈ ls, (10 : UInt8) ∉ l) → Af 10 (Ae ls ++ z) = ls ++ Af 10 z
 | [], z, _ => rfl
 | l :: ls, z, h => by
  rw [A9, List.append_assoc, List.cons_append, C7 _ (h l (by simp)), E4 ls z fun x hx => h x (by simp [hx])]; rfl
theorem Dj : ∀ (a b : List L8) (n : Nat) (st : ScrS), Ai n st (a ++ b) = match Ai n st a with | .error e => .error e | .ok st' => Ai (n + a.length) st' b
 | [], b, n, st => rfl
 | l :: a, b, n, st => by
  simp only [List.cons_append, Ai]
  split
  ·rw [Dj a b (n + 1) st, show n + 1 + a.length = n + (l :: a).length from by simp; omega]
  ·split
   ·rfl
   ·rename_i st' _
    rw [Dj a b (n + 1) st', show n + 1 + a.length = n + (l :: a).length from by simp; omega]
theorem Hl : ∀ (steps : List Ah) (t : L8), (∀ s ∈ steps, s.Fits) → A2 steps = .ok t → ∃ sl : List L8, t = Ae sl ∧ sl.length = steps.length ∧ (∀ l ∈ sl, (10 : UInt8) ∉ l ∧ Cp l = false) ∧
  ∀ (p : ScrP) (done : List Ah) (n : Nat), done.length + steps.length ≤ 4096 → Ai n ⟨some p, done⟩ sl = .ok ⟨some p, done ++ steps⟩
 | [], t, _, h => by
  simp only [A2, Except.ok.injEq] at h
  exact ⟨[], h.symm, rfl, fun l hl => (by simp at hl), fun p done n _ => by simp [Ai]⟩
 | s :: r, t, hf, h => by
  simp only [A2] at h
  split at h
  ·cases h
  ·rename_i a ha
   split at h
   ·cases h
   ·rename_i b hb
    cases h
    obtain ⟨sl, rfl, h1, h2, h3⟩ := Hl r b (fun x hx => hf x (by simp [hx])) hb
    obtain ⟨w, as, e, c1, c2, c3, c4, c5⟩ := Nl (hf s (by simp)) ha
    refine ⟨a :: sl, by rw [A9], by simp [h1], fun l hl => ?_, fun p done n hn => ?_⟩
    ·rcases List.mem_cons.1 hl with rfl | hl
     ·exact ⟨by rw [e]; exact Gm as w c1 c2, c4⟩
     ·exact h2 l hl
    ·simp only [List.length_cons] at hn
     simp only [Ai]
     rw [c4]
     simp only [Bool.false_eq_true, if_false]
     have : B5 ⟨some p, done⟩ a = .ok ⟨some p, done ++ [s]⟩ := by
      unfold B5
      rw [e, Cw as w c1 c2]
      simp only
      rw [if_neg (fun x => c3 x.1), if_neg (by omega), c5]
     rw [this]
     simp only
     rw [h3 p (done ++ [s]) (n + 1) (by simp; omega)]; simp
theorem Jw : ∀ (ops : List OpV) (p : ScrP) (n : Nat), (∀ o ∈ ops, o.Fits) → Ai n ⟨some p, []⟩ (ops.map opT) = .ok ⟨some { p with ops := p.ops ++ ops }, []⟩
 | [], p, n, _ => by simp [Ai]
 | o :: r, p, n, hf => by
  have hs : Cp (opT o) = false := rfl
  have : B5 ⟨some p, []⟩ (opT o) = .ok ⟨some { p with ops := p.ops ++ [o] }, []⟩ := by
   unfold B5
   rw [Ot, Cw _ _ Jv (by
    intro a ha
    simp only [List.mem_cons, List.mem_nil_iff, or_false] at ha
    rcases ha with rfl | rfl | rfl
    ·exact B3 _
    ·exact B3 _
    ·exact F2 _ _)]
   simp only
   simp only [and_self, if_true]
   rw [P3 (hf o (by simp))]
  simp only [List.map_cons, Ai, hs, Bool.false_eq_true, if_false, this]
  rw [Jw r _ _ fun x hx => hf x (by simp [hx])]; simp
theorem Le {p : ScrP} {steps : List Ah} {t : L8} (hp : p.Fits) (hs : ∀ s ∈ steps, s.Fits) (h : By p steps = .ok t) : ∃ ls : List L8, t = Ae ls ∧ (∀ l ∈ ls, (10 : UInt8) ∉ l ∧ Cp l = false) ∧ ls ≠ [] ∧
  (∀ n, Ai n ⟨none, []⟩ ls = .ok ⟨some p, steps⟩) ∧ ls.length = 1 + p.ops.length + steps.length ∧ t.length ≤ 262144 ∧ steps.length ≤ 4096 := by
 unfold By at h
 split at h
 ·cases h
 ·rename_i h4
  split at h
  ·cases h
  ·rename_i b hb
   split at h
   ·cases h
   ·rename_i hlen
    cases h
    obtain ⟨sl, rfl, h1, h2, h3⟩ := Hl steps b hs hb
    have hc : ∀ a ∈ (nums p).map itoa, Clean a := fun a ha => by obtain ⟨n, -, rfl⟩ := List.mem_map.1 ha; exact B3 n
    refine ⟨Ju p :: (p.ops.map opT ++ sl), ?_, fun l hl => ?_, by simp, fun n => ?_, by simp [h1]; omega, by omega, by omega⟩
    ·rw [A9, Hk, Oq]; simp [Ae, opsT, List.map_map, Function.comp_def]
    ·rcases List.mem_cons.1 hl with rfl | hl
     ·exact ⟨Gm _ _ Hj hc, rfl⟩
     ·rcases List.mem_append.1 hl with hl | hl
      ·obtain ⟨o, -, rfl⟩ := List.mem_map.1 hl
       refine ⟨?_, rfl⟩
       rw [Ot]
       refine Gm _ _ Jv fun a ha => ?_
       simp only [List.mem_cons, List.mem_nil_iff, or_false] at ha
       rcases ha with rfl | rfl | rfl
       ·exact B3 _
       ·exact B3 _
       ·exact F2 _ _
      ·exact h2 l hl
    ·have e0 : Cp (Ju p) = false := rfl
     have e1 : B5 ⟨none, []⟩ (Ju p) = .ok ⟨some { p with ops := [] }, []⟩ := by
      unfold B5 Ju
      rw [Cw _ _ Hj hc]
      simp only
      simp only [if_true]
      rw [Nm hp]
     simp only [Ai, e0, Bool.false_eq_true, if_false, e1]
     rw [Dj, Jw _ _ _ hp.ops]
     simp only [List.nil_append]
     rw [h3 _ [] _ (by simp; omega)]; rfl
end Go.Sx
