/- Scripts printed and read again, read and printed again. Conditions: none. -/
import Derived.Test.YtbmmaibbiahkkaaGreatDoorSxSb
namespace Go.Sx
set_option linter.unusedSimpArgs false
open Go.Lib
def Ag.Fits (s : Ag) : Prop := (-9223372036854775808 ≤ s.kind ∧ s.kind < 9223372036854775808) ∧ (-9223372036854775808 ≤ s.node ∧ s.node < 9223372036854775808) ∧ (-9223372036854775808 ≤ s.n ∧ s.n < 9223372036854775808) ∧ s.r.Fits
structure ScrP.Fits (p : ScrP) : Prop where
 nums : ∀ n ∈ [p.n0, p.n1, p.n2, p.n3, p.n4, p.n5, p.n6], -9223372036854775808 ≤ n ∧ n < 9223372036854775808
 ops : ∀ o ∈ p.ops, o.Fits
def words (w : L8) (as : List L8) : L8 := w ++ (as.map fun a => 32 :: a).flatten
theorem Md (w : L8) : words w [] = w := by simp [words]
theorem Et (l : L8) : ∀ w as, Ac 32 l = w :: as → l = words w as := by
 have : ∀ (as : List L8) (w : L8), joinL 32 (w :: as) = words w as := by
  intro as
  induction as with
  | nil => intro w; rw [Md]; rfl
  | cons a as ih => intro w; show w ++ 32 :: joinL 32 (a :: as) = _; rw [ih]; simp [words]
 intro w as h
 rw [← D5 32 l, h, this]
def argA (c : UInt8) (s : Ag) : L8 :=
 if c = 110 then itoa s.node else if c = 107 then itoa s.n else if c = 117 then decDigits s.r.key.toNat else hexK 16 s.r.val
theorem H6 : ∀ x ∈ Fg, x.2 = [] ∨ x.2 = [110] ∨ x.2 = [107] ∨ x.2 = [117] ∨ x.2 = [110, 107] ∨ x.2 = [110, 117, 118] := by decide
theorem Fu {k : Int} {w asks : L8} (h : Fh k = some (w, asks)) : (w, asks) ∈ Fg ∧ 1 ≤ k ∧ k ≤ 11 ∧ D6 w = some (k.toNat, asks) := by
 unfold Fh at h
 split at h
 ·rename_i hk
  have hm := List.mem_of_getElem? h
  have hl : (k - 1).toNat < 11 := (List.getElem?_eq_some_iff.1 h).1
  refine ⟨hm, hk, by omega, ?_⟩
  have hk' : k = ((k - 1).toNat : Int) + 1 := by omega
  generalize (k - 1).toNat = i at h hl hk'
  subst hk'
  have : ∀ i : Fin 11, ∀ x, Fg[i.val]? = some x → D6 x.1 = some (i.val + 1, x.2) := by decide
  have := this ⟨i, hl⟩ _ h
  rw [this]; rfl
 ·cases h
theorem G5 {w asks : L8} {k : Nat} (h : D6 w = some (k, asks)) : Fh k = some (w, asks) := by
 have : ∀ (l : List (L8 × L8)) (i k : Nat), Lv w l i = some (k, asks) → i ≤ k ∧ l[k - i]? = some (w, asks) := by
  intro l
  induction l with
  | nil => intro i k h; cases h
  | cons x r ih =>
   obtain ⟨a, b⟩ := x
   intro i k h
   unfold Lv at h
   split at h
   ·rename_i hw; cases h; subst hw; simp
   ·obtain ⟨h1, h2⟩ := ih (i + 1) k h
    refine ⟨by omega, ?_⟩
    rw [show k - i = (k - (i + 1)) + 1 from by omega]; simpa using h2
 obtain ⟨h1, h2⟩ := this Fg 1 k h
 unfold Fh
 rw [if_pos (by omega), show ((k : Int) - 1).toNat = k - 1 from by omega]; exact h2
theorem Me {asks : L8} (h : asks = [] ∨ asks = [110] ∨ asks = [107] ∨ asks = [117] ∨ asks = [110, 107] ∨ asks = [110, 117, 118]) (s : Ag) : (emit asks s).1 = ((asks.map fun c => argA c s).map fun a => 32 :: a).flatten := by
 rcases h with rfl | rfl | rfl | rfl | rfl | rfl <;> simp [emit, Bt, argA]
theorem Nc {asks : L8} (h : asks = [] ∨ asks = [110] ∨ asks = [107] ∨ asks = [117] ∨ asks = [110, 107] ∨ asks = [110, 117, 118]) {s : Ag} {k : Nat} {as : List L8} (hk : 1 ≤ k ∧ k ≤ 11) (hs : As asks as (step0 k) = some s) : s.kind = k ∧ s.Fits ∧ (emit asks s).2.bare ∧ as = asks.map fun c => argA c s := by
 have n1 : ∀ {l v}, numL l = some v → l = itoa v ∧ -9223372036854775808 ≤ v ∧ v < 9223372036854775808 := fun h => by
  obtain ⟨a, b, c⟩ := Bl.1 h; exact ⟨a, b, by omega⟩
 have k1 : ∀ {l v}, keyL l = some v → l = decDigits v ∧ ((v : Int) < u64m) := fun h => by
  obtain ⟨a, b⟩ := Dq.1 h; exact ⟨a, by simp only [u64m]; omega⟩
 have f1 : ∀ {l v}, fltL l = some v → l = hexK 16 v ∧ v < 18446744073709551616 := fun h => Ka.1 h
 have kk : -9223372036854775808 ≤ (k : Int) ∧ (k : Int) < 9223372036854775808 := by omega
 rcases h with rfl | rfl | rfl | rfl | rfl | rfl
 ·match as, hs with
  | [], hs => simp [As] at hs; subst hs; refine ⟨rfl, ?_, ?_, rfl⟩ <;> simp [Ag.Fits, RecV.Fits, step0, emit, Ag.bare, u64m]; omega
  | _ :: _, hs => simp [As] at hs
 ·match as, hs with
  | [], hs => simp [As] at hs
  | [a], hs =>
   simp [As, setA, step0, Option.bind_eq_some_iff, Option.map_eq_some_iff] at hs
   obtain ⟨v, hv, rfl⟩ := hs
   obtain ⟨e, b1, b2⟩ := n1 hv
   refine ⟨rfl, ?_, ?_, ?_⟩ <;> simp [Ag.Fits, RecV.Fits, emit, Bt, Ag.bare, u64m, argA, e]; omega
  | _ :: _ :: _, hs => simp [As, setA] at hs
 ·match as, hs with
  | [], hs => simp [As] at hs
  | [a], hs =>
   simp [As, setA, step0, Option.bind_eq_some_iff, Option.map_eq_some_iff] at hs
   obtain ⟨v, hv, rfl⟩ := hs
   obtain ⟨e, b1, b2⟩ := n1 hv
   refine ⟨rfl, ?_, ?_, ?_⟩ <;> simp [Ag.Fits, RecV.Fits, emit, Bt, Ag.bare, u64m, argA, e]; omega
  | _ :: _ :: _, hs => simp [As, setA] at hs
 ·match as, hs with
  | [], hs => simp [As] at hs
  | [a], hs =>
   simp [As, setA, step0, Option.bind_eq_some_iff, Option.map_eq_some_iff] at hs
   obtain ⟨v, hv, rfl⟩ := hs
   obtain ⟨e, b1⟩ := k1 hv
   simp only [u64m] at b1
   refine ⟨rfl, ?_, ?_, ?_⟩ <;> simp [Ag.Fits, RecV.Fits, emit, Bt, Ag.bare, u64m, argA, e]; omega
  | _ :: _ :: _, hs => simp [As, setA] at hs
 ·match as, hs with
  | [], hs => simp [As] at hs
  | [a], hs => simp [As, setA] at hs
  | [a, b], hs =>
   simp [As, setA, step0, Option.bind_eq_some_iff, Option.map_eq_some_iff] at hs
   obtain ⟨_, ⟨v, hv, rfl⟩, u, hu, rfl⟩ := hs
   obtain ⟨e, b1, b2⟩ := n1 hv
   obtain ⟨e', b1', b2'⟩ := n1 hu
   refine ⟨rfl, ?_, ?_, ?_⟩ <;> simp [Ag.Fits, RecV.Fits, emit, Bt, Ag.bare, u64m, argA, e, e']; omega
  | _ :: _ :: _ :: _, hs => simp [As, setA] at hs
 ·match as, hs with
  | [], hs => simp [As] at hs
  | [a], hs => simp [As, setA] at hs
  | [a, b], hs => simp [As, setA] at hs
  | [a, b, c], hs =>
   simp [As, setA, step0, Option.bind_eq_some_iff, Option.map_eq_some_iff] at hs
   obtain ⟨_, ⟨v, hv, rfl⟩, _, ⟨u, hu, rfl⟩, x, hx, rfl⟩ := hs
   obtain ⟨e, b1, b2⟩ := n1 hv
   obtain ⟨e', b1'⟩ := k1 hu
   obtain ⟨e'', b1''⟩ := f1 hx
   simp only [u64m] at b1'
   refine ⟨rfl, ?_, ?_, ?_⟩ <;> simp [Ag.Fits, RecV.Fits, emit, Bt, Ag.bare, u64m, argA, e, e', e'']; omega
  | _ :: _ :: _ :: _ :: _, hs => simp [As, setA] at hs
theorem K8 {l w : L8} {as : List L8} {s : Ag} (hl : Ac 32 l = w :: as) (h : D9 (w :: as) = .ok s) : stepT s = .ok l ∧ s.Fits := by
 unfold D9 at h
 simp only at h
 split at h
 ·cases h
 ·rename_i k asks hw
  split at h
  ·cases h
  ·rename_i s' hs
   cases h
   have hk := G5 hw
   obtain ⟨hm, h1, h11, ho⟩ := Fu hk
   obtain ⟨e1, e2, e3, e4⟩ := Nc (H6 _ hm) (k := k) (by omega) hs
   refine ⟨?_, e2⟩
   unfold stepT
   rw [e1, hk]
   simp only
   rw [if_pos e3, Et l w as hl, Me (H6 _ hm), e4]; rfl
def nums (p : ScrP) : List Int := [p.n0, p.n1, p.n2, p.n3, p.n4, p.n5, p.n6]
def Nf (p : ScrP) : L8 := words C0 ((nums p).map itoa)
theorem Ng (p : ScrP) : C9 p = Nf p ++ [10] := by unfold C9 Nf words nums; simp
theorem Pd (o : OpV) : opT o = words opW [itoa o.kind, itoa o.n, hexK 16 o.x] := by simp [opT, words]
theorem K9 {as : List L8} {p : ScrP} (h : Es as = some p) : as = (nums p).map itoa ∧ p.Fits ∧ p.ops = [] := by
 unfold Es at h
 split at h
 ·split at h
  ·rename_i a b c d e f g _ _ _ _ _ _ _ ha hb hc hd he hf hg
   cases h
   obtain ⟨rfl, a1, a2⟩ := Bl.1 ha
   obtain ⟨rfl, b1, b2⟩ := Bl.1 hb
   obtain ⟨rfl, c1, c2⟩ := Bl.1 hc
   obtain ⟨rfl, d1, d2⟩ := Bl.1 hd
   obtain ⟨rfl, e1, e2⟩ := Bl.1 he
   obtain ⟨rfl, f1, f2⟩ := Bl.1 hf
   obtain ⟨rfl, g1, g2⟩ := Bl.1 hg
   refine ⟨rfl, ⟨fun n hn => ?_, fun o ho => (by simp at ho)⟩, rfl⟩
   simp only [List.mem_cons, List.mem_nil_iff, or_false] at hn
   rcases hn with rfl | rfl | rfl | rfl | rfl | rfl | rfl <;> omega
  ·cases h
 ·cases h
theorem Nh {as : List L8} {o : OpV} (h : opL as = some o) : as = [itoa o.kind, itoa o.n, hexK 16 o.x] ∧ o.Fits := by
 unfold opL at h
 split at h
 ·split at h
  ·rename_i ha hb hc
   cases h
   obtain ⟨rfl, a1, a2⟩ := Bl.1 ha
   obtain ⟨rfl, b1, b2⟩ := Bl.1 hb
   obtain ⟨rfl, c1⟩ := Ka.1 hc
   exact ⟨rfl, ⟨by simp only; omega, by simp only; omega, c1⟩⟩
  ·cases h
 ·cases h
def Af (ls : List L8) : L8 := (ls.map fun l => l ++ [10]).flatten
theorem Cg (a b : List L8) : Af (a ++ b) = Af a ++ Af b := by simp [Af]
theorem A8 (a : L8) (b : List L8) : Af (a :: b) = a ++ 10 :: Af b := by simp [Af]
theorem C2 : ∀ (ls : List L8) (z : L8), (∀ l ∈ ls, (10 : UInt8) ∉ l) → Ac 10 (Af ls ++ z) = ls ++ Ac 10 z
 | [], z, _ => rfl
 | l :: ls, z, h => by
  rw [A8, List.append_assoc, List.cons_append, D4 _ (h l (by simp)), C2 ls z fun x hx => h x (by simp [hx])]; rfl
def Told (st : ScrS) (ls : List L8) : Prop := match st.p with
 | none => st.steps = [] ∧ ls = []
 | some p => ∃ sl, Aw st.steps = .ok (Af sl) ∧ ls = Nf p :: (p.ops.map opT ++ sl) ∧ p.Fits ∧ (∀ s ∈ st.steps, s.Fits)
theorem stepsT_app : ∀ (a b : List Ag), Aw (a ++ b) = match Aw a with | .error e => .error e | .ok t => match Aw b with | .error e => .error e | .ok u => .ok (t ++ u)
 | [], b => by
  simp only [List.nil_append, Aw]
  cases Aw b <;> simp
 | s :: a, b => by
  simp only [List.cons_append, Aw, stepsT_app a b]
  cases stepT s with
  | error e => rfl
  | ok l =>
   cases Aw a with
   | error e => rfl
   | ok t =>
    cases Aw b with
    | error e => rfl
    | ok u => simp
theorem Told.line {st st' : ScrS} {ls : List L8} {l : L8} (h : Told st ls) (hl : Cl st l = .ok st') : Told st' (ls ++ [l]) := by
 unfold Cl at hl
 split at hl
 ·cases hl
 ·rename_i w as hw
  unfold Told at h
  split at hl
  ·rename_i hp
   rw [hp] at h
   obtain ⟨h1, rfl⟩ := h
   split at hl
   ·rename_i hpl
    split at hl
    ·rename_i p hp'
     cases hl
     obtain ⟨e1, e2, e3⟩ := K9 hp'
     refine ⟨[], by simp only [h1]; rfl, ?_, e2, fun s hs => by simp only [h1] at hs; simp at hs⟩
     rw [e3, Et l w as hw, e1, hpl]; rfl
    ·cases hl
   ·cases hl
  ·rename_i p hp
   rw [hp] at h
   obtain ⟨sl, h1, rfl, h3, h4⟩ := h
   split at hl
   ·rename_i hop
    split at hl
    ·rename_i o ho
     cases hl
     obtain ⟨e1, e2⟩ := Nh ho
     have hsl : sl = [] := by
      rw [hop.2] at h1
      simp only [Aw, Except.ok.injEq] at h1
      cases sl with
      | nil => rfl
      | cons a r => rw [A8] at h1; simp at h1
     refine ⟨[], by simp only [hop.2]; rfl, ?_, ⟨h3.nums, fun x hx => ?_⟩, h4⟩
     ·subst hsl
      simp only [List.map_append, List.map_cons, List.map_nil, List.append_nil, List.cons_append]
      rw [Pd, Et l w as hw, e1, hop.1]
      rfl
     ·rcases List.mem_append.1 hx with hx | hx
      ·exact h3.ops x hx
      ·simp at hx; subst hx; exact e2
    ·cases hl
   ·split at hl
    ·cases hl
    ·split at hl
     ·cases hl
     ·rename_i s hs
      cases hl
      obtain ⟨e1, e2⟩ := K8 hw hs
      unfold Told
      simp only [hp]
      refine ⟨sl ++ [l], ?_, by simp, h3, fun x hx => ?_⟩
      ·rw [stepsT_app, h1]
       simp only [Aw, e1]
       rw [Cg]; simp [Af]
      ·rcases List.mem_append.1 hx with hx | hx
       ·exact h4 x hx
       ·simp at hx; subst hx; exact e2
theorem Told.go : ∀ (l : List L8) (n : Nat) (st st' : ScrS) (ls : List L8), Told st ls → A1 n st l = .ok st' → Told st' (ls ++ l.filter fun x => !Ds x)
 | [], n, st, st', ls, h, hp => by cases hp; simpa using h
 | x :: l, n, st, st', ls, h, hp => by
  simp only [A1] at hp
  split at hp
  ·rename_i hs
   rw [List.filter_cons_of_neg (by simp [hs])]
   exact Told.go l _ _ _ _ h hp
  ·rename_i hs
   split at hp
   ·cases hp
   ·rename_i st1 h1
    have := Told.go l _ _ _ _ (h.line h1) hp
    rw [List.filter_cons_of_pos (by simp [hs])]
    simpa using this
def H7 (t : L8) : L8 := Af ((Ac 10 t).filter fun l => !Ds l)
theorem Eu : ∀ (l : List L8) (n : Nat) (st st' : ScrS), st.steps.length ≤ 4096 → A1 n st l = .ok st' → st'.steps.length ≤ 4096
 | [], n, st, st', h, hp => by cases hp; exact h
 | x :: l, n, st, st', h, hp => by
  simp only [A1] at hp
  split at hp
  ·exact Eu l _ _ _ h hp
  ·split at hp
   ·cases hp
   ·rename_i st1 h1
    refine Eu l _ _ _ ?_ hp
    unfold Cl at h1
    split at h1
    ·cases h1
    ·split at h1
     ·split at h1
      ·split at h1
       ·cases h1; exact h
       ·cases h1
      ·cases h1
     ·split at h1
      ·split at h1
       ·cases h1; exact h
       ·cases h1
      ·split at h1
       ·cases h1
       ·split at h1
        ·cases h1
        ·cases h1; simp; omega
theorem Pn {t : L8} {p : ScrP} {steps : List Ag} (h : Bs t = .ok (p, steps)) : C1 p steps = (if 262144 < (H7 t).length then .error 6 else .ok (H7 t)) ∧ p.Fits ∧ (∀ s ∈ steps, s.Fits) ∧ steps.length ≤ 4096 ∧ t.length ≤ 262144 := by
 unfold Bs at h
 split at h
 ·cases h
 ·rename_i hlen
  split at h
  ·cases h
  ·rename_i st hst
   split at h
   ·cases h
   ·rename_i p' hp
    cases h
    have h0 : Told ⟨none, []⟩ [] := ⟨rfl, rfl⟩
    have hT := Told.go _ _ _ _ _ h0 hst
    have hn := Eu _ _ _ _ (by simp) hst
    unfold Told at hT
    rw [hp] at hT
    obtain ⟨sl, h1, h2, h3, h4⟩ := hT
    have e : C9 p ++ (opsT p.ops ++ Af sl) = H7 t := by
     unfold H7
     rw [List.nil_append] at h2
     rw [h2, A8, Cg, Ng]
     simp [Af, opsT, List.map_map, Function.comp_def]
    refine ⟨?_, h3, h4, hn, by omega⟩
    unfold C1
    rw [if_neg (by omega), h1]
    simp only
    rw [e]
end Go.Sx
