/- Scripts printed and read again, read and printed again. Conditions: none. -/
import Derived.Test.YtbmmaibbiahkkaaGreatDoorSxSb
namespace Go.Sx
set_option linter.unusedSimpArgs false
open Go.Lib
def Ag.Fits (s : Ag) : Prop := (-9223372036854775808 ≤ s.kind ∧ s.kind < 9223372036854775808) ∧ (-9223372036854775808 ≤ s.node ∧ s.node < 9223372036854775808) ∧ (-9223372036854775808 ≤ s.n ∧ s.n < 9223372036854775808) ∧ s.r.Fits
structure ScrP.Fits (p : ScrP) : Prop where
 nums : ∀ n ∈ [p.n0, p.n1, p.n2, p.n3, p.n4, p.n5, p.n6], -9223372036854775808 ≤ n ∧ n < 9223372036854775808
 ops : ∀ o ∈ p.ops, o.Fits
def Clean (l : L8) : Prop := (10 : UInt8) ∉ l ∧ (32 : UInt8) ∉ l
theorem Dx {l : L8} (h : ∀ c ∈ l, 33 ≤ c.toNat) : Clean l := by
 constructor <;> intro hc <;> have := h _ hc <;> simp at this
theorem Jj (u : Nat) : Clean (decDigits u) := Dx fun c hc => by have := Ic u c hc; unfold isDg at this; omega
theorem B1 (v : Int) : Clean (itoa v) := by
 by_cases h : v < 0
 ·rw [itoa_neg h]
  refine Dx fun c hc => ?_
  rcases List.mem_cons.1 hc with rfl | hc
  ·decide
  ·have := Ic _ c hc; unfold isDg at this; omega
 ·rw [Ew h]; exact Jj _
theorem Fw (k b : Nat) : Clean (hexK k b) := Dx fun c hc => by
 obtain ⟨d, hd⟩ := Option.isSome_iff_exists.1 (Ih k b c hc)
 unfold hexV at hd
 split at hd
 ·omega
 ·split at hd
  ·omega
  ·cases hd
def words (w : L8) (as : List L8) : L8 := w ++ (as.map fun a => 32 :: a).flatten
theorem Jk (w : L8) : words w [] = w := by simp [words]
theorem Cv : ∀ (as : List L8) (w : L8), Clean w → (∀ a ∈ as, Clean a) → Ad 32 (words w as) = w :: as
 | [], w, h, _ => by rw [Jk]; exact Dc h.2
 | a :: as, w, h, ha => by
  have : words w (a :: as) = w ++ 32 :: words a as := by simp [words]
  rw [this, C5 _ h.2, Cv as a (ha a (by simp)) fun b hb => ha b (by simp [hb])]
theorem Gg : ∀ (as : List L8) (w : L8), Clean w → (∀ a ∈ as, Clean a) → (10 : UInt8) ∉ words w as
 | [], w, h, _ => by rw [Jk]; exact h.1
 | a :: as, w, h, ha => by
  have : words w (a :: as) = w ++ 32 :: words a as := by simp [words]
  rw [this]
  simp only [List.mem_append, List.mem_cons, not_or]
  exact ⟨h.1, by decide, Gg as a (ha a (by simp)) fun b hb => ha b (by simp [hb])⟩
def argA (c : UInt8) (s : Ag) : L8 :=
 if c = 110 then itoa s.node else if c = 107 then itoa s.n else if c = 117 then decDigits s.r.key.toNat else hexK 16 s.r.val
theorem Lt (c : UInt8) (s : Ag) : Clean (argA c s) := by
 unfold argA
 split
 ·exact B1 _
 ·split
  ·exact B1 _
  ·split
   ·exact Jj _
   ·exact Fw _ _
theorem Lu : ∀ x ∈ Dd, x.2 = [] ∨ x.2 = [110] ∨ x.2 = [107] ∨ x.2 = [117] ∨ x.2 = [110, 107] ∨ x.2 = [110, 117, 118] := by decide
theorem K0 : ∀ x ∈ Dd, Clean x.1 := by
 have : ∀ x ∈ Dd, ∀ c ∈ x.1, 33 ≤ c.toNat := by decide
 exact fun x hx => Dx (this x hx)
theorem Lv : ∀ x ∈ Dd, Co x.1 = false := by decide
theorem Fx {k : Int} {w asks : L8} (h : Fh k = some (w, asks)) : (w, asks) ∈ Dd ∧ 1 ≤ k ∧ k ≤ 11 ∧ Ea w = some (k.toNat, asks) := by
 unfold Fh at h
 split at h
 ·rename_i hk
  have hm := List.mem_of_getElem? h
  have hl : (k - 1).toNat < 11 := (List.getElem?_eq_some_iff.1 h).1
  refine ⟨hm, hk, by omega, ?_⟩
  have hk' : k = ((k - 1).toNat : Int) + 1 := by omega
  generalize (k - 1).toNat = i at h hl hk'
  subst hk'
  have : ∀ i : Fin 11, ∀ x, Dd[i.val]? = some x → Ea x.1 = some (i.val + 1, x.2) := by decide
  have := this ⟨i, hl⟩ _ h
  rw [this]; rfl
 ·cases h
theorem K1 {w asks : L8} {k : Nat} (h : Ea w = some (k, asks)) : Fh k = some (w, asks) := by
 have : ∀ (l : List (L8 × L8)) (i k : Nat), Mk w l i = some (k, asks) → i ≤ k ∧ l[k - i]? = some (w, asks) := by
  intro l
  induction l with
  | nil => intro i k h; cases h
  | cons x r ih =>
   obtain ⟨a, b⟩ := x
   intro i k h
   unfold Mk at h
   split at h
   ·rename_i hw; cases h; subst hw; simp
   ·obtain ⟨h1, h2⟩ := ih (i + 1) k h
    refine ⟨by omega, ?_⟩
    rw [show k - i = (k - (i + 1)) + 1 from by omega]; simpa using h2
 obtain ⟨h1, h2⟩ := this Dd 1 k h
 unfold Fh
 rw [if_pos (by omega), show ((k : Int) - 1).toNat = k - 1 from by omega]; exact h2
theorem Mw {asks : L8} (h : asks = [] ∨ asks = [110] ∨ asks = [107] ∨ asks = [117] ∨ asks = [110, 107] ∨ asks = [110, 117, 118]) (s : Ag) : (emit asks s).1 = ((asks.map fun c => argA c s).map fun a => 32 :: a).flatten := by
 rcases h with rfl | rfl | rfl | rfl | rfl | rfl <;> simp [emit, B6, argA]
theorem Ny {asks : L8} (h : asks = [] ∨ asks = [110] ∨ asks = [107] ∨ asks = [117] ∨ asks = [110, 107] ∨ asks = [110, 117, 118]) {s : Ag} {k : Nat} (hk : s.kind = k) (hf : s.Fits) (hb : (emit asks s).2.bare) : Cc asks (asks.map fun c => argA c s) (step0 k) = some s := by
 obtain ⟨kind, node, n, ⟨key, val⟩⟩ := s
 obtain ⟨h1, ⟨h2, h2'⟩, ⟨h3, h3'⟩, ⟨⟨h4, h4'⟩, h5⟩⟩ := hf
 simp only at hk h2 h2' h3 h3' h4 h4' h5
 subst hk
 have e1 : numL (itoa node) = some node := Dw ⟨h2, by omega⟩
 have e2 : numL (itoa n) = some n := Dw ⟨h3, by omega⟩
 have e3 : keyL (decDigits key.toNat) = some key.toNat := If (by simp only [u64m] at h4'; omega)
 have e4 : fltL (hexK 16 val) = some val := Ku h5
 rcases h with rfl | rfl | rfl | rfl | rfl | rfl <;> simp [emit, B6, Ag.bare] at hb <;> simp [Cc, setA, argA, step0, e1, e2, e3, e4, hb] <;> omega
theorem Mx {s : Ag} {l : L8} (hf : s.Fits) (h : stepT s = .ok l) : ∃ w as, l = words w as ∧ Clean w ∧ (∀ a ∈ as, Clean a) ∧ w ≠ opW ∧ Co l = false ∧ Fi (w :: as) = .ok s := by
 unfold stepT at h
 split at h
 ·cases h
 ·rename_i w asks hw
  split at h
  ·rename_i hb
   cases h
   obtain ⟨hm, h1, h11, ho⟩ := Fx hw
   have hA := Lu _ hm
   have hC := K0 _ hm
   have hne : ∀ x ∈ Dd, x.1 ≠ opW := by decide
   refine ⟨w, asks.map fun c => argA c s, ?_, hC, fun a ha => ?_, hne _ hm, ?_, ?_⟩
   ·rw [Mw hA]; rfl
   ·obtain ⟨c, -, rfl⟩ := List.mem_map.1 ha
    exact Lt _ _
   ·have := Lv _ hm
    cases w with
    | nil => cases this
    | cons x r => simpa [Co] using this
   ·unfold Fi
    simp only [ho]
    rw [Ny hA (k := s.kind.toNat) (by omega) hf hb]
  ·cases h
def nums (p : ScrP) : List Int := [p.n0, p.n1, p.n2, p.n3, p.n4, p.n5, p.n6]
def Jl (p : ScrP) : L8 := words Cn ((nums p).map itoa)
theorem Nz (p : ScrP) : De p = Jl p ++ [10] := by unfold De Jl words nums; simp
theorem N0 (o : OpV) : opT o = words opW [itoa o.kind, itoa o.n, hexK 16 o.x] := by simp [opT, words]
theorem Ha : Clean Cn := Dx (by decide)
theorem Jm : Clean opW := Dx (by decide)
theorem My {p : ScrP} (h : p.Fits) : Ex ((nums p).map itoa) = some { p with ops := [] } := by
 have e : ∀ n ∈ nums p, numL (itoa n) = some n := fun n hn => Dw (by have := h.nums n hn; omega)
 simp only [nums, List.map_cons, List.map_nil, Ex]
 simp only [nums, List.forall_mem_cons] at e
 obtain ⟨a, b, c, d, f, g, i, -⟩ := e
 rw [a, b, c, d, f, g, i]
theorem O2 {o : OpV} (h : o.Fits) : opL [itoa o.kind, itoa o.n, hexK 16 o.x] = some o := by
 obtain ⟨⟨a, b⟩, ⟨c, d⟩, e⟩ := h
 unfold opL
 simp only
 rw [Dw ⟨a, by omega⟩, Dw ⟨c, by omega⟩, Ku e]
def Ba (ls : List L8) : L8 := (ls.map fun l => l ++ [10]).flatten
theorem K2 (a b : List L8) : Ba (a ++ b) = Ba a ++ Ba b := by simp [Ba]
theorem Eb (a : L8) (b : List L8) : Ba (a :: b) = a ++ 10 :: Ba b := by simp [Ba]
theorem B7 : ∀ (ls : List L8) (z : L8), (∀ l ∈ ls, (10 : UInt8) ∉ l) → Ad 10 (Ba ls ++ z) = ls ++ Ad 10 z
 | [], z, _ => rfl
 | l :: ls, z, h => by
  rw [Eb, List.append_assoc, List.cons_append, C5 _ (h l (by simp)), B7 ls z fun x hx => h x (by simp [hx])]; rfl
theorem Ci : ∀ (a b : List L8) (n : Nat) (st : ScrS), An n st (a ++ b) = match An n st a with | .error e => .error e | .ok st' => An (n + a.length) st' b
 | [], b, n, st => rfl
 | l :: a, b, n, st => by
  simp only [List.cons_append, An]
  split
  ·rw [Ci a b (n + 1) st, show n + 1 + a.length = n + (l :: a).length from by simp; omega]
  ·split
   ·rfl
   ·rename_i st' _
    rw [Ci a b (n + 1) st', show n + 1 + a.length = n + (l :: a).length from by simp; omega]
theorem Hb : ∀ (steps : List Ag) (t : L8), (∀ s ∈ steps, s.Fits) → A6 steps = .ok t → ∃ sl : List L8, t = Ba sl ∧ sl.length = steps.length ∧ (∀ l ∈ sl, (10 : UInt8) ∉ l ∧ Co l = false) ∧
  ∀ (p : ScrP) (done : List Ag) (n : Nat), done.length + steps.length ≤ 4096 → An n ⟨some p, done⟩ sl = .ok ⟨some p, done ++ steps⟩
 | [], t, _, h => by
  simp only [A6, Except.ok.injEq] at h
  exact ⟨[], h.symm, rfl, fun l hl => (by simp at hl), fun p done n _ => by simp [An]⟩
 | s :: r, t, hf, h => by
  simp only [A6] at h
  split at h
  ·cases h
  ·rename_i a ha
   split at h
   ·cases h
   ·rename_i b hb
    cases h
    obtain ⟨sl, rfl, h1, h2, h3⟩ := Hb r b (fun x hx => hf x (by simp [hx])) hb
    obtain ⟨w, as, e, c1, c2, c3, c4, c5⟩ := Mx (hf s (by simp)) ha
    refine ⟨a :: sl, by rw [Eb], by simp [h1], fun l hl => ?_, fun p done n hn => ?_⟩
    ·rcases List.mem_cons.1 hl with rfl | hl
     ·exact ⟨by rw [e]; exact Gg as w c1 c2, c4⟩
     ·exact h2 l hl
    ·simp only [List.length_cons] at hn
     simp only [An]
     rw [c4]
     simp only [Bool.false_eq_true, if_false]
     have : B5 ⟨some p, done⟩ a = .ok ⟨some p, done ++ [s]⟩ := by
      unfold B5
      rw [e, Cv as w c1 c2]
      simp only
      rw [if_neg (fun x => c3 x.1), if_neg (by omega), c5]
     rw [this]
     simp only
     rw [h3 p (done ++ [s]) (n + 1) (by simp; omega)]; simp
theorem Jn : ∀ (ops : List OpV) (p : ScrP) (n : Nat), (∀ o ∈ ops, o.Fits) → An n ⟨some p, []⟩ (ops.map opT) = .ok ⟨some { p with ops := p.ops ++ ops }, []⟩
 | [], p, n, _ => by simp [An]
 | o :: r, p, n, hf => by
  have hs : Co (opT o) = false := rfl
  have : B5 ⟨some p, []⟩ (opT o) = .ok ⟨some { p with ops := p.ops ++ [o] }, []⟩ := by
   unfold B5
   rw [N0, Cv _ _ Jm (by
    intro a ha
    simp only [List.mem_cons, List.mem_nil_iff, or_false] at ha
    rcases ha with rfl | rfl | rfl
    ·exact B1 _
    ·exact B1 _
    ·exact Fw _ _)]
   simp only
   simp only [and_self, if_true]
   rw [O2 (hf o (by simp))]
  simp only [List.map_cons, An, hs, Bool.false_eq_true, if_false, this]
  rw [Jn r _ _ fun x hx => hf x (by simp [hx])]; simp
theorem Hc {p : ScrP} {steps : List Ag} {t : L8} (hp : p.Fits) (hs : ∀ s ∈ steps, s.Fits) (h : Bv p steps = .ok t) : ∃ ls : List L8, t = Ba ls ∧ (∀ l ∈ ls, (10 : UInt8) ∉ l ∧ Co l = false) ∧ ls ≠ [] ∧
  (∀ n, An n ⟨none, []⟩ ls = .ok ⟨some p, steps⟩) ∧ ls.length = 1 + p.ops.length + steps.length ∧ t.length ≤ 262144 ∧ steps.length ≤ 4096 := by
 unfold Bv at h
 split at h
 ·cases h
 ·rename_i h4
  split at h
  ·cases h
  ·rename_i b hb
   split at h
   ·cases h
   ·rename_i hlen
    cases h
    obtain ⟨sl, rfl, h1, h2, h3⟩ := Hb steps b hs hb
    have hc : ∀ a ∈ (nums p).map itoa, Clean a := fun a ha => by obtain ⟨n, -, rfl⟩ := List.mem_map.1 ha; exact B1 n
    refine ⟨Jl p :: (p.ops.map opT ++ sl), ?_, fun l hl => ?_, by simp, fun n => ?_, by simp [h1]; omega, by omega, by omega⟩
    ·rw [Eb, K2, Nz]; simp [Ba, opsT, List.map_map, Function.comp_def]
    ·rcases List.mem_cons.1 hl with rfl | hl
     ·exact ⟨Gg _ _ Ha hc, rfl⟩
     ·rcases List.mem_append.1 hl with hl | hl
      ·obtain ⟨o, -, rfl⟩ := List.mem_map.1 hl
       refine ⟨?_, rfl⟩
       rw [N0]
       refine Gg _ _ Jm fun a ha => ?_
       simp only [List.mem_cons, List.mem_nil_iff, or_false] at ha
       rcases ha with rfl | rfl | rfl
       ·exact B1 _
       ·exact B1 _
       ·exact Fw _ _
      ·exact h2 l hl
    ·have e0 : Co (Jl p) = false := rfl
     have e1 : B5 ⟨none, []⟩ (Jl p) = .ok ⟨some { p with ops := [] }, []⟩ := by
      unfold B5 Jl
      rw [Cv _ _ Ha hc]
      simp only
      simp only [if_true]
      rw [My hp]
     simp only [An, e0, Bool.false_eq_true, if_false, e1]
     rw [Ci, Jn _ _ _ hp.ops]
     simp only [List.nil_append]
     rw [h3 _ [] _ (by simp; omega)]; rfl
theorem back {p : ScrP} {steps : List Ag} {t : L8} (hp : p.Fits) (hs : ∀ s ∈ steps, s.Fits) (h : Bv p steps = .ok t) : Bp t = .ok (p, steps) := by
 obtain ⟨ls, rfl, h1, h2, h3, -, h5, h6⟩ := Hc hp hs h
 unfold Bp
 rw [if_neg (by omega)]
 have e := B7 ls [] fun l hl => (h1 l hl).1
 rw [List.append_nil] at e
 rw [e, Ci, h3 0]
 simp [Ad, An, Co]
end Go.Sx
