/- Scripts printed and read again, read and printed again. Conditions: none. -/
import Derived.Test.YtbmmaibbiahkkaaGreatDoorSxSb
namespace Go.Sx
set_option linter.unusedSimpArgs false
open Go.Lib
def Ag.Fits (s : Ag) : Prop := (-9223372036854775808 ≤ s.kind ∧ s.kind < 9223372036854775808) ∧ (-9223372036854775808 ≤ s.node ∧ s.node < 9223372036854775808) ∧ (-9223372036854775808 ≤ s.n ∧ s.n < 9223372036854775808) ∧ s.r.Fits
structure ScrP.Fits (p : ScrP) : Prop where
 nums : ∀ n ∈ [p.n0, p.n1, p.n2, p.n3, p.n4, p.n5, p.n6], -9223372036854775808 ≤ n ∧ n < 9223372036854775808
 ops : ∀ o ∈ p.ops, o.Fits
def Clean (l : L8) : Prop := (10 : UInt8) ∉ l ∧ (32 : UInt8) ∉ l
theorem Dt {l : L8} (h : ∀ c ∈ l, 33 ≤ c.toNat) : Clean l := by
 constructor <;> intro hc <;> have := h _ hc <;> simp at this
theorem Je (u : Nat) : Clean (decDigits u) := Dt fun c hc => by have := H4 u c hc; unfold isDg at this; omega
theorem Bz (v : Int) : Clean (itoa v) := by
 by_cases h : v < 0
 ·rw [itoa_neg h]
  refine Dt fun c hc => ?_
  rcases List.mem_cons.1 hc with rfl | hc
  ·decide
  ·have := H4 _ c hc; unfold isDg at this; omega
 ·rw [Et h]; exact Je _
theorem Fv (k b : Nat) : Clean (hexK k b) := Dt fun c hc => by
 obtain ⟨d, hd⟩ := Option.isSome_iff_exists.1 (H8 k b c hc)
 unfold hexV at hd
 split at hd
 ·omega
 ·split at hd
  ·omega
  ·cases hd
def words (w : L8) (as : List L8) : L8 := w ++ (as.map fun a => 32 :: a).flatten
theorem Jf (w : L8) : words w [] = w := by simp [words]
theorem Ct : ∀ (as : List L8) (w : L8), Clean w → (∀ a ∈ as, Clean a) → Af 32 (words w as) = w :: as
 | [], w, h, _ => by rw [Jf]; exact C9 h.2
 | a :: as, w, h, ha => by
  have : words w (a :: as) = w ++ 32 :: words a as := by simp [words]
  rw [this, C2 _ h.2, Ct as a (ha a (by simp)) fun b hb => ha b (by simp [hb])]
theorem Ge : ∀ (as : List L8) (w : L8), Clean w → (∀ a ∈ as, Clean a) → (10 : UInt8) ∉ words w as
 | [], w, h, _ => by rw [Jf]; exact h.1
 | a :: as, w, h, ha => by
  have : words w (a :: as) = w ++ 32 :: words a as := by simp [words]
  rw [this]
  simp only [List.mem_append, List.mem_cons, not_or]
  exact ⟨h.1, by decide, Ge as a (ha a (by simp)) fun b hb => ha b (by simp [hb])⟩
def argA (c : UInt8) (s : Ag) : L8 :=
 if c = 110 then itoa s.node else if c = 107 then itoa s.n else if c = 117 then decDigits s.r.key.toNat else hexK 16 s.r.val
theorem Lr (c : UInt8) (s : Ag) : Clean (argA c s) := by
 unfold argA
 split
 ·exact Bz _
 ·split
  ·exact Bz _
  ·split
   ·exact Je _
   ·exact Fv _ _
theorem Ls : ∀ x ∈ Da, x.2 = [] ∨ x.2 = [110] ∨ x.2 = [107] ∨ x.2 = [117] ∨ x.2 = [110, 107] ∨ x.2 = [110, 117, 118] := by decide
theorem Ku : ∀ x ∈ Da, Clean x.1 := by
 have : ∀ x ∈ Da, ∀ c ∈ x.1, 33 ≤ c.toNat := by decide
 exact fun x hx => Dt (this x hx)
theorem Lt : ∀ x ∈ Da, Db x.1 = false := by decide
theorem Fw {k : Int} {w asks : L8} (h : Fh k = some (w, asks)) : (w, asks) ∈ Da ∧ 1 ≤ k ∧ k ≤ 11 ∧ D6 w = some (k.toNat, asks) := by
 unfold Fh at h
 split at h
 ·rename_i hk
  have hm := List.mem_of_getElem? h
  have hl : (k - 1).toNat < 11 := (List.getElem?_eq_some_iff.1 h).1
  refine ⟨hm, hk, by omega, ?_⟩
  have hk' : k = ((k - 1).toNat : Int) + 1 := by omega
  generalize (k - 1).toNat = i at h hl hk'
  subst hk'
  have : ∀ i : Fin 11, ∀ x, Da[i.val]? = some x → D6 x.1 = some (i.val + 1, x.2) := by decide
  have := this ⟨i, hl⟩ _ h
  rw [this]; rfl
 ·cases h
theorem Kv {w asks : L8} {k : Nat} (h : D6 w = some (k, asks)) : Fh k = some (w, asks) := by
 have : ∀ (l : List (L8 × L8)) (i k : Nat), Mj w l i = some (k, asks) → i ≤ k ∧ l[k - i]? = some (w, asks) := by
  intro l
  induction l with
  | nil => intro i k h; cases h
  | cons x r ih =>
   obtain ⟨a, b⟩ := x
   intro i k h
   unfold Mj at h
   split at h
   ·rename_i hw; cases h; subst hw; simp
   ·obtain ⟨h1, h2⟩ := ih (i + 1) k h
    refine ⟨by omega, ?_⟩
    rw [show k - i = (k - (i + 1)) + 1 from by omega]; simpa using h2
 obtain ⟨h1, h2⟩ := this Da 1 k h
 unfold Fh
 rw [if_pos (by omega), show ((k : Int) - 1).toNat = k - 1 from by omega]; exact h2
theorem Mz {asks : L8} (h : asks = [] ∨ asks = [110] ∨ asks = [107] ∨ asks = [117] ∨ asks = [110, 107] ∨ asks = [110, 117, 118]) (s : Ag) : (emit asks s).1 = ((asks.map fun c => argA c s).map fun a => 32 :: a).flatten := by
 rcases h with rfl | rfl | rfl | rfl | rfl | rfl <;> simp [emit, B4, argA]
theorem N5 {asks : L8} (h : asks = [] ∨ asks = [110] ∨ asks = [107] ∨ asks = [117] ∨ asks = [110, 107] ∨ asks = [110, 117, 118]) {s : Ag} {k : Nat} (hk : s.kind = k) (hf : s.Fits) (hb : (emit asks s).2.bare) : Ca asks (asks.map fun c => argA c s) (step0 k) = some s := by
 obtain ⟨kind, node, n, ⟨key, val⟩⟩ := s
 obtain ⟨h1, ⟨h2, h2'⟩, ⟨h3, h3'⟩, ⟨⟨h4, h4'⟩, h5⟩⟩ := hf
 simp only at hk h2 h2' h3 h3' h4 h4' h5
 subst hk
 have e1 : numL (itoa node) = some node := Ds ⟨h2, by omega⟩
 have e2 : numL (itoa n) = some n := Ds ⟨h3, by omega⟩
 have e3 : keyL (decDigits key.toNat) = some key.toNat := H6 (by simp only [u64m] at h4'; omega)
 have e4 : fltL (hexK 16 val) = some val := Ko h5
 rcases h with rfl | rfl | rfl | rfl | rfl | rfl <;> simp [emit, B4, Ag.bare] at hb <;> simp [Ca, setA, argA, step0, e1, e2, e3, e4, hb] <;> omega
theorem M0 {s : Ag} {l : L8} (hf : s.Fits) (h : stepT s = .ok l) : ∃ w as, l = words w as ∧ Clean w ∧ (∀ a ∈ as, Clean a) ∧ w ≠ opW ∧ Db l = false ∧ Fi (w :: as) = .ok s := by
 unfold stepT at h
 split at h
 ·cases h
 ·rename_i w asks hw
  split at h
  ·rename_i hb
   cases h
   obtain ⟨hm, h1, h11, ho⟩ := Fw hw
   have hA := Ls _ hm
   have hC := Ku _ hm
   have hne : ∀ x ∈ Da, x.1 ≠ opW := by decide
   refine ⟨w, asks.map fun c => argA c s, ?_, hC, fun a ha => ?_, hne _ hm, ?_, ?_⟩
   ·rw [Mz hA]; rfl
   ·obtain ⟨c, -, rfl⟩ := List.mem_map.1 ha
    exact Lr _ _
   ·have := Lt _ hm
    cases w with
    | nil => cases this
    | cons x r => simpa [Db] using this
   ·unfold Fi
    simp only [ho]
    rw [N5 hA (k := s.kind.toNat) (by omega) hf hb]
  ·cases h
def nums (p : ScrP) : List Int := [p.n0, p.n1, p.n2, p.n3, p.n4, p.n5, p.n6]
def Jg (p : ScrP) : L8 := words Cl ((nums p).map itoa)
theorem N6 (p : ScrP) : Cm p = Jg p ++ [10] := by unfold Cm Jg words nums; simp
theorem N7 (o : OpV) : opT o = words opW [itoa o.kind, itoa o.n, hexK 16 o.x] := by simp [opT, words]
theorem G7 : Clean Cl := Dt (by decide)
theorem Jh : Clean opW := Dt (by decide)
theorem M1 {p : ScrP} (h : p.Fits) : Ev ((nums p).map itoa) = some { p with ops := [] } := by
 have e : ∀ n ∈ nums p, numL (itoa n) = some n := fun n hn => Ds (by have := h.nums n hn; omega)
 simp only [nums, List.map_cons, List.map_nil, Ev]
 simp only [nums, List.forall_mem_cons] at e
 obtain ⟨a, b, c, d, f, g, i, -⟩ := e
 rw [a, b, c, d, f, g, i]
theorem Ph {o : OpV} (h : o.Fits) : opL [itoa o.kind, itoa o.n, hexK 16 o.x] = some o := by
 obtain ⟨⟨a, b⟩, ⟨c, d⟩, e⟩ := h
 unfold opL
 simp only
 rw [Ds ⟨a, by omega⟩, Ds ⟨c, by omega⟩, Ko e]
def B5 (ls : List L8) : L8 := (ls.map fun l => l ++ [10]).flatten
theorem Kw (a b : List L8) : B5 (a ++ b) = B5 a ++ B5 b := by simp [B5]
theorem D7 (a : L8) (b : List L8) : B5 (a :: b) = a ++ 10 :: B5 b := by simp [B5]
theorem Ew : ∀ (ls : List L8) (z : L8), (∀ l ∈ ls, (10 : UInt8) ∉ l) → Af 10 (B5 ls ++ z) = ls ++ Af 10 z
 | [], z, _ => rfl
 | l :: ls, z, h => by
  rw [D7, List.append_assoc, List.cons_append, C2 _ (h l (by simp)), Ew ls z fun x hx => h x (by simp [hx])]; rfl
theorem Dc : ∀ (a b : List L8) (n : Nat) (st : ScrS), Ao n st (a ++ b) = match Ao n st a with | .error e => .error e | .ok st' => Ao (n + a.length) st' b
 | [], b, n, st => rfl
 | l :: a, b, n, st => by
  simp only [List.cons_append, Ao]
  split
  ·rw [Dc a b (n + 1) st, show n + 1 + a.length = n + (l :: a).length from by simp; omega]
  ·split
   ·rfl
   ·rename_i st' _
    rw [Dc a b (n + 1) st', show n + 1 + a.length = n + (l :: a).length from by simp; omega]
theorem stepsT_app : ∀ (a b : List Ag), Aq (a ++ b) = match Aq a with | .error e => .error e | .ok t => match Aq b with | .error e => .error e | .ok u => .ok (t ++ u)
 | [], b => by
  simp only [List.nil_append, Aq]
  cases Aq b <;> simp
 | s :: a, b => by
  simp only [List.cons_append, Aq, stepsT_app a b]
  cases stepT s with
  | error e => rfl
  | ok l =>
   cases Aq a with
   | error e => rfl
   | ok t =>
    cases Aq b with
    | error e => rfl
    | ok u => simp
theorem G8 : ∀ (steps : List Ag) (t : L8), (∀ s ∈ steps, s.Fits) → Aq steps = .ok t → ∃ sl : List L8, t = B5 sl ∧ sl.length = steps.length ∧ (∀ l ∈ sl, (10 : UInt8) ∉ l ∧ Db l = false) ∧
  ∀ (p : ScrP) (done : List Ag) (n : Nat), done.length + steps.length ≤ 4096 → Ao n ⟨some p, done⟩ sl = .ok ⟨some p, done ++ steps⟩
 | [], t, _, h => by
  simp only [Aq, Except.ok.injEq] at h
  exact ⟨[], h.symm, rfl, fun l hl => (by simp at hl), fun p done n _ => by simp [Ao]⟩
 | s :: r, t, hf, h => by
  simp only [Aq] at h
  split at h
  ·cases h
  ·rename_i a ha
   split at h
   ·cases h
   ·rename_i b hb
    cases h
    obtain ⟨sl, rfl, h1, h2, h3⟩ := G8 r b (fun x hx => hf x (by simp [hx])) hb
    obtain ⟨w, as, e, c1, c2, c3, c4, c5⟩ := M0 (hf s (by simp)) ha
    refine ⟨a :: sl, by rw [D7], by simp [h1], fun l hl => ?_, fun p done n hn => ?_⟩
    ·rcases List.mem_cons.1 hl with rfl | hl
     ·exact ⟨by rw [e]; exact Ge as w c1 c2, c4⟩
     ·exact h2 l hl
    ·simp only [List.length_cons] at hn
     simp only [Ao]
     rw [c4]
     simp only [Bool.false_eq_true, if_false]
     have : Cg ⟨some p, done⟩ a = .ok ⟨some p, done ++ [s]⟩ := by
      unfold Cg
      rw [e, Ct as w c1 c2]
      simp only
      rw [if_neg (fun x => c3 x.1), if_neg (by omega), c5]
     rw [this]
     simp only
     rw [h3 p (done ++ [s]) (n + 1) (by simp; omega)]; simp
theorem Ji : ∀ (ops : List OpV) (p : ScrP) (n : Nat), (∀ o ∈ ops, o.Fits) → Ao n ⟨some p, []⟩ (ops.map opT) = .ok ⟨some { p with ops := p.ops ++ ops }, []⟩
 | [], p, n, _ => by simp [Ao]
 | o :: r, p, n, hf => by
  have hs : Db (opT o) = false := rfl
  have : Cg ⟨some p, []⟩ (opT o) = .ok ⟨some { p with ops := p.ops ++ [o] }, []⟩ := by
   unfold Cg
   rw [N7, Ct _ _ Jh (by
    intro a ha
    simp only [List.mem_cons, List.mem_nil_iff, or_false] at ha
    rcases ha with rfl | rfl | rfl
    ·exact Bz _
    ·exact Bz _
    ·exact Fv _ _)]
   simp only
   simp only [and_self, if_true]
   rw [Ph (hf o (by simp))]
  simp only [List.map_cons, Ao, hs, Bool.false_eq_true, if_false, this]
  rw [Ji r _ _ fun x hx => hf x (by simp [hx])]; simp
theorem Kx {p : ScrP} {steps : List Ag} {t : L8} (hp : p.Fits) (hs : ∀ s ∈ steps, s.Fits) (h : Be p steps = .ok t) : ∃ ls : List L8, t = B5 ls ∧ (∀ l ∈ ls, (10 : UInt8) ∉ l ∧ Db l = false) ∧ ls ≠ [] ∧
  (∀ n, Ao n ⟨none, []⟩ ls = .ok ⟨some p, steps⟩) ∧ ls.length = 1 + p.ops.length + steps.length ∧ t.length ≤ 262144 ∧ steps.length ≤ 4096 := by
 unfold Be at h
 split at h
 ·cases h
 ·rename_i h4
  split at h
  ·cases h
  ·rename_i b hb
   split at h
   ·cases h
   ·rename_i hlen
    cases h
    obtain ⟨sl, rfl, h1, h2, h3⟩ := G8 steps b hs hb
    have hc : ∀ a ∈ (nums p).map itoa, Clean a := fun a ha => by obtain ⟨n, -, rfl⟩ := List.mem_map.1 ha; exact Bz n
    refine ⟨Jg p :: (p.ops.map opT ++ sl), ?_, fun l hl => ?_, by simp, fun n => ?_, by simp [h1]; omega, by omega, by omega⟩
    ·rw [D7, Kw, N6]; simp [B5, opsT, List.map_map, Function.comp_def]
    ·rcases List.mem_cons.1 hl with rfl | hl
     ·exact ⟨Ge _ _ G7 hc, rfl⟩
     ·rcases List.mem_append.1 hl with hl | hl
      ·obtain ⟨o, -, rfl⟩ := List.mem_map.1 hl
       refine ⟨?_, rfl⟩
       rw [N7]
       refine Ge _ _ Jh fun a ha => ?_
       simp only [List.mem_cons, List.mem_nil_iff, or_false] at ha
       rcases ha with rfl | rfl | rfl
       ·exact Bz _
       ·exact Bz _
       ·exact Fv _ _
      ·exact h2 l hl
    ·have e0 : Db (Jg p) = false := rfl
     have e1 : Cg ⟨none, []⟩ (Jg p) = .ok ⟨some { p with ops := [] }, []⟩ := by
      unfold Cg Jg
      rw [Ct _ _ G7 hc]
      simp only
      simp only [if_true]
      rw [M1 hp]
     simp only [Ao, e0, Bool.false_eq_true, if_false, e1]
     rw [Dc, Ji _ _ _ hp.ops]
     simp only [List.nil_append]
     rw [h3 _ [] _ (by simp; omega)]; rfl
theorem back {p : ScrP} {steps : List Ag} {t : L8} (hp : p.Fits) (hs : ∀ s ∈ steps, s.Fits) (h : Be p steps = .ok t) : B3 t = .ok (p, steps) := by
 obtain ⟨ls, rfl, h1, h2, h3, -, h5, h6⟩ := Kx hp hs h
 unfold B3
 rw [if_neg (by omega)]
 have e := Ew ls [] fun l hl => (h1 l hl).1
 rw [List.append_nil] at e
 rw [e, Dc, h3 0]
 simp [Af, Ao, Db]
end Go.Sx
