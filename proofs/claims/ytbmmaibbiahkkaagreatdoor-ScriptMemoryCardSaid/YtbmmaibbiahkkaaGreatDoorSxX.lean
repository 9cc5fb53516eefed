/- Opening arguments that hold slices in structs and structs in slices. Conditions: none. -/
import Derived.Test.YtbmmaibbiahkkaaGreatDoorSxQ
namespace Go.Sx
set_option linter.unusedSimpArgs false
open Go.ChangeShapes Go.WideShapes Go.RowKit
set_option linter.unusedVariables false
section
variable {P : Program} {H : Type} {enc : TypeId × Value → H}
def Szd (P : Program) (t : TypeId) (d : DataW H) : Prop := ∀ n ∈ d.weights P t, n ≤ reachBytes
theorem N0 {t e : TypeId} {es sp : List (DataW H)} (ht : P.underlying t = some (.slice e)) (h : Szd P t (.slice es sp)) : ∀ d ∈ es, Szd P e d := by
 intro d hd n hn
 refine h n ?_
 have hall : ∀ (l : List (DataW H)), d ∈ l → n ∈ DataW.weightsAll P e l := by
  intro l
  induction l with
  | nil => intro h; cases h
  | cons x r ih =>
   intro h
   rw [DataW.weightsAll]
   rcases List.mem_cons.1 h with rfl | h
   ·exact List.mem_append_left _ hn
   ·exact List.mem_append_right _ (ih h)
 have : DataW.weights P t (DataW.slice es sp) = (es.length + sp.length) * P.bytesOf e :: (DataW.weightsAll P e es ++ DataW.weightsAll P e sp) := by
  simp only [DataW.weights, ht]
 rw [this]
 exact List.mem_cons_of_mem _ (List.mem_append_left _ (hall es hd))
theorem Pj {t e : TypeId} {es sp : List (DataW H)} (ht : P.underlying t = some (.slice e)) (h : Szd P t (.slice es sp)) : es.length * P.bytesOf e ≤ 140737488351232 := by
 have hw : DataW.weights P t (DataW.slice es sp) = (es.length + sp.length) * P.bytesOf e :: (DataW.weightsAll P e es ++ DataW.weightsAll P e sp) := by
  simp only [DataW.weights, ht]
 have := h ((es.length + sp.length) * P.bytesOf e) (by rw [hw]; simp)
 have h2 : es.length * P.bytesOf e ≤ (es.length + sp.length) * P.bytesOf e := Nat.mul_le_mul_right _ (by omega)
 have h3 : reachBytes = 140737488351232 := by decide
 omega
theorem M1 {t : TypeId} {fs : Array Field} {ds : List (DataW H)} (ht : P.underlying t = some (.struct fs)) (h : Szd P t (.agg ds)) {i : Nat} {f : Field} {d : DataW H} (hf : fs[i]? = some f) (hd : ds[i]? = some d) : Szd P f.type d := by
 intro n hn
 refine h n ?_
 have hw : DataW.weights P t (DataW.agg ds) = DataW.weightsEach P (fs.toList.map (·.type)) ds := by simp only [DataW.weights, ht]
 rw [hw]
 refine DataW.weights_mem_each (j := i) (t := f.type) ?_ hd n hn
 rw [List.getElem?_map]
 have : fs.toList[i]? = some f := by simpa using hf
 rw [this]; rfl
theorem Mn {ts : List TypeId} {ds : List (DataW H)} (h : (DataW.weightsEach P ts ds).all (· ≤ reachBytes) = true) {j : Nat} {t : TypeId} {d : DataW H} (ht : ts[j]? = some t) (hd : ds[j]? = some d) : Szd P t d := by
 intro n hn
 have := List.all_eq_true.1 h n (DataW.weights_mem_each ht hd n hn)
 simpa using this
inductive K2 where
 | int (k : IntKind)
 | bool
 | float (k : FloatKind)
 | sub (t : TypeId)
def K2.ok (S : TypeId → Value → Prop) : K2 → Value → Prop
 | .int k, v => ∃ n, v = .int k n ∧ (Lit.int k n).wf = true
 | .bool, v => ∃ b, v = .bool b
 | .float k, v => ∃ b, v = .float k b ∧ (Lit.float k b).wf = true
 | .sub t, v => S t v
def Gh (P : Program) (rec : TypeId → Option (List K2)) : Nat → List Field → Option (List K2)
 | _, [] => some []
 | off, f :: r => cond (f.offset == off) (match rec f.type with
  | some ks => cond (P.cellsOf f.type == ks.length) (match Gh P rec (off + ks.length) r with | some rest => some (ks ++ rest) | none => none) none
  | none => none) none
def Ey (P : Program) : Nat → TypeId → Option (List K2)
 | 0 => fun _ => none
 | d + 1 => fun t => match P.underlying t with
  | some (.int k) => some [.int k]
  | some .bool => some [.bool]
  | some (.float k) => some [.float k]
  | some (.slice _) => some [.sub t]
  | some (.struct fs) => match Gh P (Ey P d) 0 fs.toList with
   | some ks => cond (P.cellsOf t == ks.length) (some ks) none
   | none => none
  | _ => none
def Ja (S : TypeId → Value → Prop) (ks : List K2) (cs : List Value) : Prop := cs.length = ks.length ∧ ∀ (i : Nat) (k : K2), ks[i]? = some k → ∃ v, cs[i]? = some v ∧ k.ok S v
def Sub (enc : TypeId × Value → H) (P : Program) (w : World) (spare : Nat → Bool) (held : Bool) (t : TypeId) (v : Value) : Prop := ∃ (n : Nat) (x : DataW H × List MemPlace), DataW.trod enc P w 0 spare held n t [v] = some x ∧ Szd P t x.1
theorem Kt {k : FloatKind} {t : TypeId} {w : World} {base : Nat} {spare : Nat → Bool} {held : Bool} {fuel : Nat} {cs : List Value} {x : DataW H × List MemPlace} (ht : P.underlying t = some (.float k)) (h : DataW.trod enc P w base spare held fuel t cs = some x) :
  ∃ b, cs = [.float k b] ∧ x = (.lit (.float k b), []) ∧ (Lit.float k b).wf = true := by
 cases fuel with
 | zero => simp [DataW.trod] at h
 | succ n =>
  unfold DataW.trod at h
  rw [ht] at h
  split at h <;> simp_all
theorem Fq {w : World} {spare : Nat → Bool} {held : Bool} {n : Nat} {rec : TypeId → Option (List K2)} {cs : List Value}
  (hrec : ∀ (t : TypeId) (ks : List K2), rec t = some ks → ∀ (cs : List Value) (x : DataW H × List MemPlace), DataW.trod enc P w 0 spare held n t cs = some x → Szd P t x.1 → Ja (Sub enc P w spare held) ks cs) :
  ∀ (fs : List Field) (off : Nat) (ks : List K2), Gh P rec off fs = some ks → (∀ f ∈ fs, ∃ y, DataW.trod enc P w 0 spare held n f.type ((cs.drop f.offset).take (P.cellsOf f.type)) = some y ∧ Szd P f.type y.1) →
  ∀ (i : Nat) (k : K2), ks[i]? = some k → ∃ v, cs[off + i]? = some v ∧ k.ok (Sub enc P w spare held) v
 | [], off, ks, h, _, i, k, hk => by simp [Gh] at h; subst h; simp at hk
 | f :: r, off, ks, h, hf, i, k, hk => by
  rw [Gh] at h
  cases ho : f.offset == off with
  | false => rw [ho] at h; cases h
  | true =>
   rw [ho] at h
   have ho' : f.offset = off := by simpa using ho
   simp only [cond_true] at h
   split at h
   ·rename_i k1 hk1
    cases hc : P.cellsOf f.type == k1.length with
    | false => rw [hc] at h; cases h
    | true =>
     rw [hc] at h
     have hc' : P.cellsOf f.type = k1.length := by simpa using hc
     simp only [cond_true] at h
     split at h
     ·rename_i rest hrest
      cases h
      by_cases hi : i < k1.length
      ·rw [List.getElem?_append_left hi] at hk
       obtain ⟨y, hy, hz⟩ := hf f (by simp)
       obtain ⟨v, hv, hok⟩ := (hrec _ _ hk1 _ _ hy hz).2 i k hk
       rw [List.getElem?_take, if_pos (by omega), List.getElem?_drop, ho'] at hv
       exact ⟨v, hv, hok⟩
      ·rw [List.getElem?_append_right (by omega)] at hk
       have := Fq hrec r (off + k1.length) rest hrest (fun f' h' => hf f' (by simp [h'])) (i - k1.length) k hk
       rwa [show off + k1.length + (i - k1.length) = off + i from by omega] at this
     ·cases h
   ·cases h
theorem Ec {w : World} {spare : Nat → Bool} {held : Bool} : ∀ (d : Nat) (t : TypeId) (ks : List K2), Ey P d t = some ks → ∀ (n : Nat) (cs : List Value) (x : DataW H × List MemPlace), DataW.trod enc P w 0 spare held n t cs = some x → Szd P t x.1 → Ja (Sub enc P w spare held) ks cs
 | 0, t, ks, h, _, _, _, _, _ => by simp [Ey] at h
 | d + 1, t, ks, h, n, cs, x, hx, hz => by
  simp only [Ey] at h
  split at h
  ·rename_i k hu
   cases h
   obtain ⟨v, rfl, -, hw⟩ := DataW.trod_int hu hx
   refine ⟨rfl, fun i k' hk => ?_⟩
   cases i with
   | zero => simp at hk; subst hk; exact ⟨_, rfl, v, rfl, hw⟩
   | succ i => simp at hk
  ·rename_i hu
   cases h
   obtain ⟨v, rfl, -⟩ := DataW.trod_bool hu hx
   refine ⟨rfl, fun i k' hk => ?_⟩
   cases i with
   | zero => simp at hk; subst hk; exact ⟨_, rfl, v, rfl⟩
   | succ i => simp at hk
  ·rename_i k hu
   cases h
   obtain ⟨v, rfl, -, hw⟩ := Kt hu hx
   refine ⟨rfl, fun i k' hk => ?_⟩
   cases i with
   | zero => simp at hk; subst hk; exact ⟨_, rfl, v, rfl, hw⟩
   | succ i => simp at hk
  ·rename_i e hu
   cases h
   have hone : ∃ v, cs = [v] := by
    rcases Go.Deep.open_slice hu hx with ⟨rfl, -⟩ | ⟨a, len, cap, m, n', D, Pl, rfl, -⟩
    ·exact ⟨_, rfl⟩
    ·exact ⟨_, rfl⟩
   obtain ⟨v, rfl⟩ := hone
   refine ⟨rfl, fun i k' hk => ?_⟩
   cases i with
   | zero => simp at hk; subst hk; exact ⟨_, rfl, n, x, hx, hz⟩
   | succ i => simp at hk
  ·rename_i fs hu
   split at h
   ·rename_i ks' hks
    cases hc : P.cellsOf t == ks'.length with
    | false => rw [hc] at h; cases h
    | true =>
     rw [hc] at h
     cases h
     obtain ⟨ys, n', hn', hy, hlen, hyl, hf⟩ := DataW.trod_struct hu hx
     refine ⟨by rw [hlen]; simpa using hc, fun i k hk => ?_⟩
     have := Fq (enc := enc) (w := w) (spare := spare) (held := held) (n := n') (cs := cs) (fun t ks h cs x hx hz => Ec d t ks h n' cs x hx hz) fs.toList 0 ks hks (fun f hfm => by
      obtain ⟨j, hj⟩ := List.getElem?_of_mem hfm
      have hj' : fs[j]? = some f := by simpa using hj
      have hjl : j < fs.size := (Array.getElem?_eq_some_iff.1 hj').1
      have hyj : ys[j]? = some (ys[j]'(by omega)) := List.getElem?_eq_getElem (by omega)
      refine ⟨ys[j]'(by omega), (hf j f hj').trans hyj, ?_⟩
      rw [hy] at hz
      refine M1 hu hz hj' ?_
      rw [List.getElem?_map, hyj]; rfl) i k hk
     simpa using this
   ·cases h
  ·cases h
theorem Ku {t e : TypeId} {ks : List K2} {d : Nat} {w : World} {spare : Nat → Bool} {held : Bool} {v : Value} (hS : Sub enc P w spare held t v) (ht : P.underlying t = some (.slice e)) (hk : Ey P d e = some ks) (hc : P.cellsOf e = ks.length) {B : Nat} (hB : P.bytesOf e = B)
  {α : Type} {E : Enc α} (hE : E.sz = ks.length) {ok : α → Prop} (hα : ∀ cs, Ja (Sub enc P w spare held) ks cs → ∃ x, cs = E.f x ∧ ok x) :
  ∃ a n c l, v = .slice a n c ∧ Reads w E (a, n, c) l ∧ (∀ x ∈ l, ok x) ∧ l.length ≤ maxLen ∧ l.length * B ≤ 140737488351232 := by
 obtain ⟨fuel, x, hx, hz⟩ := hS
 rcases Go.Deep.open_slice ht hx with ⟨h0, rfl⟩ | ⟨a, len, cap, m, n, D, Pl, hcs, hb, hl, hm, hmm, rfl, hi⟩
 ·cases h0
  exact ⟨none, 0, 0, [], rfl, ⟨Sl.nil _ _ _, rfl, fun _ => rfl, Nat.le_refl _⟩, by simp, Nat.zero_le _, by simp⟩
 ·cases hcs
  have hlm : len ≤ m := by rw [hmm]; split <;> omega
  have hlen := Pj ht hz
  have hel0 := N0 ht hz
  simp only [List.length_map, List.length_range] at hlen
  have hel : ∀ i, i < len → ∃ x, Ah w (a.add (i * E.sz)) 0 (E.f x) ∧ ok x := by
   intro i hil
   obtain ⟨cs', hcc, htr⟩ := hi i (by omega)
   rw [hc, ← hE] at hcc
   obtain ⟨-, hcl, hat⟩ := World.cells?_some hcc
   have hzi : Szd P e (D i) := hel0 _ (List.mem_map.2 ⟨i, by simpa using hil, rfl⟩)
   obtain ⟨x, rfl, hox⟩ := hα cs' (Ec d e ks hk n cs' _ htr hzi)
   refine ⟨x, D9 fun j u hj => ?_, hox⟩
   have hjl : j < E.sz := by
    rw [← hcl]
    rcases Nat.lt_or_ge j (E.f x).length with h' | h'
    ·exact h'
    ·rw [List.getElem?_eq_none h'] at hj; cases hj
   rw [Nat.zero_add, hat j hjl]; exact hj
  have : ∀ n, n ≤ len → ∃ l : List α, l.length = n ∧ (∀ i x, l[i]? = some x → Ah w (a.add (i * E.sz)) 0 (E.f x)) ∧ ∀ x ∈ l, ok x := by
   intro n
   induction n with
   | zero => intro _; exact ⟨[], rfl, by simp, by simp⟩
   | succ n ih =>
    intro hn
    obtain ⟨l, h1, h2, h3⟩ := ih (by omega)
    obtain ⟨x, hx1, hx2⟩ := hel n (by omega)
    refine ⟨l ++ [x], by simp [h1], fun i y hy => ?_, fun y hy => ?_⟩
    ·by_cases hil : i < l.length
     ·rw [List.getElem?_append_left hil] at hy; exact h2 i y hy
     ·rw [List.getElem?_append_right (by omega)] at hy
      have : i - l.length = 0 := by
       rcases Nat.eq_zero_or_pos (i - l.length) with h' | h'
       ·exact h'
       ·rw [List.getElem?_eq_none (by simp; omega)] at hy; cases hy
      rw [this] at hy; simp at hy; subst hy
      rwa [show i = n from by omega]
    ·rcases List.mem_append.1 hy with hy | hy
     ·exact h3 y hy
     ·simp at hy; subst hy; exact hx2
  obtain ⟨l, h1, h2, h3⟩ := this len (Nat.le_refl _)
  exact ⟨some a, len, cap, l, rfl, ⟨fun i x hx => ⟨a, rfl, h2 i x hx⟩, h1.symm, fun h => (by cases h), hl⟩, h3, by rw [h1]; omega, by rw [h1, ← hB]; exact hlen⟩
theorem Pk {ts : List TypeId} {ds : List (DataW H)} (hz : (DataW.weightsEach P ts ds).all (· ≤ reachBytes) = true) {j : Nat} {t e : TypeId} (htj : ts[j]? = some t) {dt : DataW H} (hdj : ds[j]? = some dt) {w : World} {spare : Nat → Bool} {held : Bool} {v : Value} {ps : List MemPlace}
  (ht : P.underlying t = some (.slice e)) {r : Reach} {b0 : Nat} (hval : Value.okWide P w r b0 t v) (h : DataW.Trod enc P w 0 spare held t v dt ps) : Sub enc P w spare held t v := by
 obtain ⟨a, n, c, rfl⟩ := okWide_slice ht hval
 obtain ⟨fuel, h⟩ := h
 exact ⟨fuel, _, by simpa [Value.cells] using h, Mn hz htj hdj⟩
end
end Go.Sx
