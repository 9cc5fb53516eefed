/- From a call that leaves the old memory alone to a law's row: it returns true and its arguments read as they did. Conditions: none. -/
import Derived.Test.YtcpkneemhfnanaaGreatSxP
import Derived.ProofKit
import Derived.Deep.Slices
import Derived.OpenShut
import Derived.Deep.Fields
import Derived.SizedLaws
namespace Go.Sx
set_option linter.unusedSimpArgs false
open Go.ChangeShapes Go.WideShapes Go.RowKit
set_option linter.unusedVariables false
section
variable {P : Program} {H : Type} {enc : TypeId × Value → H}

theorem below_of {W w' w₀' : World} (hg : Grew W w') (hh : Hides w' w₀') (hk : Kept W W w' w₀') : Below W.heap.size W w₀' := by
  refine ⟨by rw [← hh.os]; exact hg.os, by rw [← hh.tape]; exact hg.tape, by rw [← hh.output]; exact hg.output, by rw [← hh.size]; exact hg.size, fun k hlt => ?_⟩
  rcases hh.block k with e | e
  · rw [← e]; exact hg.block k hlt
  · by_cases hW : W.heap[k]? = some hole
    · exact hk.same k hW
    · rw [hg.block k hlt] at e; exact absurd e hW

theorem trodAll_stays (hl : laidOutB P = true) {W W' : World} (hb : Below W.heap.size W W') : ∀ {ts : List TypeId} {vs : List Value} {ds : List (DataW H)} {ps : List MemPlace}, (∀ t ∈ ts, P.readableRec t = true ∧ t < P.types.size) →
    DataW.TrodAll enc P W 0 (fun _ => true) true ts vs ds ps → (∀ x ∈ ps, x.block < W.heap.size) → ∀ sp : Nat → Bool, (∀ x ∈ ps, sp x.block = true) → DataW.TrodAll enc P W' 0 sp true ts vs ds ps
  | [], vs, ds, ps, _, h, _, _, _ => by obtain ⟨rfl, rfl, rfl⟩ := trodAll_nil h; exact trodAll_mk0
  | t :: ts, vs, ds, ps, ht, h, hlt, sp, hs => by
    obtain ⟨v, vs', d, ds', p, q, rfl, rfl, rfl, h1, h2⟩ := trodAll_cons h
    have ht0 := ht t (by simp)
    exact trodAll_cons_mk (WideElems.Trod_stays hl ht0.1 ht0.2 h1 (fun x hx => hb.same (hlt x (by simp [hx]))) (fun x hx => hs x (by simp [hx])))
      (trodAll_stays hl hb (fun t' h' => ht t' (by simp [h'])) h2 (fun x hx => hlt x (by simp [hx])) sp (fun x hx => hs x (by simp [hx])))

/-- the row's own end: true, and the arguments read as they did -/
theorem post_true {f : Func} {s : ChangeSpec} {apart fresh handsOn again : Bool} {W W' : World} {args : Array Value} {ds gs : List (DataW H)} {before : List MemPlace} {tb : TypeId}
    (hl : laidOutB P = true) (hvars : s.vars = []) (hres : f.resultTypes = #[tb]) (htb : P.underlying tb = some .bool)
    (hfn : (s.fn H ds).results = [.lit (.bool true)] ∧ (s.fn H ds).args = ds ∧ (s.fn H ds).vars = [])
    (hts : ∀ t ∈ f.params.toList, P.readableRec t = true ∧ t < P.types.size)
    (hW : DataW.Whole enc P f.params.toList s.vars apart W args.toList ds gs before) (hb : Below W.heap.size W W') :
    s.post enc P f apart fresh handsOn again W args (.bool true) W' := by
  have hlt := hW.lt
  have hW0 := hW
  obtain ⟨p, q, hA, hV, hpq, hz, hn⟩ := hW
  rw [hvars] at hV
  obtain ⟨rfl, rfl⟩ := trodVars_none hV
  simp only [List.append_nil] at hpq
  subst hpq
  have hsz : f.resultTypes.size = 1 := by rw [hres]; rfl
  have hr1 : ∀ (b : Nat) (sp : Nat → Bool) (hd : Bool), DataW.TrodAll enc P W' b sp hd f.resultTypes.toList ((Value.bool true).resultList f.resultTypes.size) (s.fn H (ds ++ [])).results [] := by
    intro b sp hd
    rw [List.append_nil, hfn.1, hsz, hres]
    exact trodAll_cons_mk (shut_bool htb _) trodAll_mk0
  have ha1 : ∀ sp : Nat → Bool, (∀ x ∈ before, sp x.block = true) → DataW.TrodAll enc P W' 0 sp true f.params.toList args.toList (s.fn H (ds ++ [])).args before := by
    intro sp hs
    rw [List.append_nil, hfn.2.1]
    exact trodAll_stays hl hb hts hA hlt sp hs
  have hv1 : ∀ sp : Nat → Bool, DataW.TrodVars enc P W' sp s.vars (s.fn H (ds ++ [])).vars [] := by
    intro sp
    rw [List.append_nil, hfn.2.2, hvars]; simp [DataW.TrodVars]
  have hold : ∀ x ∈ before, (fun b => decide (b < W.heap.size)) x.block = true := fun x hx => by simpa using hlt x hx
  refine ⟨ds, [], before, [], before, [], hW0, hr1 _ _ _, ha1 _ hold, hv1 _, World.keptBut_mono (fun x hx => ⟨hx, Or.inr (by simpa using hx)⟩) (hb.frame (· ∈ before)), fun _ => ?_⟩
  refine ⟨ok_one hres rfl (okWide_bool_mk htb _), _, _, ([] ++ before) ++ [], ⟨[] ++ before, [], trodAll_append (ha1 _ (fun _ _ => rfl)) (hr1 _ _ _), hv1 _, rfl, ?_, ?_⟩, ?_⟩
  · intro b off hp
    have hp' : MemPlace.cell b off ∈ before := by simpa using hp
    rw [hb.frozen (p := ⟨b, off, none⟩) (hlt _ hp')]
    exact hz b off hp'
  · intro ha; simpa using hn ha
  · intro x hx _; simpa using hx

/-! ### what an argument holds -/
inductive K where
  | int (k : IntKind)
  | bool
def K.ok : K → Value → Prop
  | .int k, v => ∃ n, v = .int k n ∧ (Lit.int k n).wf = true
  | .bool, v => ∃ b, v = .bool b
def kindsF (P : Program) (rec : TypeId → Option (List K)) : Nat → List Field → Option (List K)
  | _, [] => some []
  | off, f :: r => cond (f.offset == off) (match rec f.type with
    | some ks => cond (P.cellsOf f.type == ks.length) (match kindsF P rec (off + ks.length) r with | some rest => some (ks ++ rest) | none => none) none
    | none => none) none
def kindsOf (P : Program) : Nat → TypeId → Option (List K)
  | 0 => fun _ => none
  | d + 1 => fun t => match P.underlying t with
    | some (.int k) => some [.int k]
    | some .bool => some [.bool]
    | some (.struct fs) => match kindsF P (kindsOf P d) 0 fs.toList with
      | some ks => cond (P.cellsOf t == ks.length) (some ks) none
      | none => none
    | _ => none
/-- these cells are of these kinds -/
def AllK (ks : List K) (cs : List Value) : Prop := cs.length = ks.length ∧ ∀ (i : Nat) (k : K), ks[i]? = some k → ∃ v, cs[i]? = some v ∧ k.ok v

theorem kindsF_sound {w : World} {base : Nat} {spare : Nat → Bool} {held : Bool} {n : Nat} {rec : TypeId → Option (List K)} {cs : List Value}
    (hrec : ∀ (t : TypeId) (ks : List K), rec t = some ks → ∀ (cs : List Value) (x : DataW H × List MemPlace), DataW.trod enc P w base spare held n t cs = some x → AllK ks cs) :
    ∀ (fs : List Field) (off : Nat) (ks : List K), kindsF P rec off fs = some ks → (∀ f ∈ fs, ∃ y, DataW.trod enc P w base spare held n f.type ((cs.drop f.offset).take (P.cellsOf f.type)) = some y) →
    ∀ (i : Nat) (k : K), ks[i]? = some k → ∃ v, cs[off + i]? = some v ∧ k.ok v
  | [], off, ks, h, _, i, k, hk => by simp [kindsF] at h; subst h; simp at hk
  | f :: r, off, ks, h, hf, i, k, hk => by
    rw [kindsF] at h
    cases ho : f.offset == off with
    | false => rw [ho] at h; cases h
    | true =>
      rw [ho] at h
      have ho' : f.offset = off := by simpa using ho
      simp only [cond_true] at h
      split at h
      · rename_i k1 hk1
        cases hc : P.cellsOf f.type == k1.length with
        | false => rw [hc] at h; cases h
        | true =>
          rw [hc] at h
          have hc' : P.cellsOf f.type = k1.length := by simpa using hc
          simp only [cond_true] at h
          split at h
          · rename_i rest hrest
            cases h
            by_cases hi : i < k1.length
            · rw [List.getElem?_append_left hi] at hk
              obtain ⟨y, hy⟩ := hf f (by simp)
              obtain ⟨v, hv, hok⟩ := (hrec _ _ hk1 _ _ hy).2 i k hk
              rw [List.getElem?_take, if_pos (by omega), List.getElem?_drop, ho'] at hv
              exact ⟨v, hv, hok⟩
            · rw [List.getElem?_append_right (by omega)] at hk
              have := kindsF_sound hrec r (off + k1.length) rest hrest (fun f' h' => hf f' (by simp [h'])) (i - k1.length) k hk
              rwa [show off + k1.length + (i - k1.length) = off + i from by omega] at this
          · cases h
      · cases h

theorem kindsOf_sound {w : World} {base : Nat} {spare : Nat → Bool} {held : Bool} : ∀ (d : Nat) (t : TypeId) (ks : List K), kindsOf P d t = some ks → ∀ (n : Nat) (cs : List Value) (x : DataW H × List MemPlace), DataW.trod enc P w base spare held n t cs = some x → AllK ks cs
  | 0, t, ks, h, _, _, _, _ => by simp [kindsOf] at h
  | d + 1, t, ks, h, n, cs, x, hx => by
    simp only [kindsOf] at h
    split at h
    · rename_i k hu
      cases h
      obtain ⟨v, rfl, -, hw⟩ := DataW.trod_int hu hx
      refine ⟨rfl, fun i k' hk => ?_⟩
      cases i with
      | zero => simp at hk; subst hk; exact ⟨_, rfl, v, rfl, hw⟩
      | succ i => simp at hk
    · rename_i hu
      cases h
      obtain ⟨v, rfl, -⟩ := DataW.trod_bool hu hx
      refine ⟨rfl, fun i k' hk => ?_⟩
      cases i with
      | zero => simp at hk; subst hk; exact ⟨_, rfl, v, rfl⟩
      | succ i => simp at hk
    · rename_i fs hu
      split at h
      · rename_i ks' hks
        cases hc : P.cellsOf t == ks'.length with
        | false => rw [hc] at h; cases h
        | true =>
          rw [hc] at h
          cases h
          obtain ⟨ys, n', hn', hy, hlen, hyl, hf⟩ := DataW.trod_struct hu hx
          refine ⟨by rw [hlen]; simpa using hc, fun i k hk => ?_⟩
          have := kindsF_sound (enc := enc) (w := w) (base := base) (spare := spare) (held := held) (n := n') (cs := cs) (fun t ks h cs x hx => kindsOf_sound d t ks h n' cs x hx) fs.toList 0 ks hks (fun f hfm => by
            obtain ⟨j, hj⟩ := List.getElem?_of_mem hfm
            have hj' : fs[j]? = some f := by simpa using hj
            have hjl : j < fs.size := (Array.getElem?_eq_some_iff.1 hj').1
            exact ⟨ys[j]'(by omega), (hf j f hj').trans (List.getElem?_eq_getElem (by omega))⟩) i k hk
          simpa using this
      · cases h
    · cases h

/-- a slice of things of these kinds -/
theorem open_flat {t e : TypeId} {ks : List K} {d : Nat} {w : World} {spare : Nat → Bool} {held : Bool} {v : Value} {dt : DataW H} {ps : List MemPlace} (ht : P.underlying t = some (.slice e)) (hk : kindsOf P d e = some ks) (hc : P.cellsOf e = ks.length)
    {r : Reach} {b0 : Nat} (hval : Value.okWide P w r b0 t v) (h : DataW.Trod enc P w 0 spare held t v dt ps) {α : Type} {E : Enc α} (hE : E.sz = ks.length) {ok : α → Prop} (hα : ∀ cs, AllK ks cs → ∃ x, cs = E.f x ∧ ok x) :
    ∃ a n c l, v = .slice a n c ∧ Reads w E (a, n, c) l ∧ (∀ x ∈ l, ok x) ∧ n ≤ maxLen ∧ ((dt = .nil ∧ n = 0) ∨ ∃ es sp, dt = .slice es sp ∧ es.length = n) := by
  obtain ⟨a0, n0, c0, rfl⟩ := okWide_slice ht hval
  obtain ⟨fuel, h⟩ := h
  rcases Go.Deep.open_slice ht h with ⟨h0, hx⟩ | ⟨a, len, cap, m, n, D, Pl, hcs, hb, hl, hm, hmm, hx, hi⟩
  · refine ⟨none, 0, 0, [], ?_, ⟨Sl.nil _ _ _, rfl, fun _ => rfl, Nat.le_refl _⟩, by simp, by decide, .inl ⟨(Prod.ext_iff.1 hx).1, rfl⟩⟩
    simpa [Value.cells] using h0
  · have hv : (.slice a0 n0 c0 : Value) = .slice (some a) len cap := by simpa [Value.cells] using hcs
    have hlm : len ≤ m := by rw [hmm]; split <;> omega
    have hel : ∀ i, i < len → ∃ x, CellsAt w (a.add (i * E.sz)) 0 (E.f x) ∧ ok x := by
      intro i hil
      obtain ⟨cs', hcc, htr⟩ := hi i (by omega)
      rw [hc, ← hE] at hcc
      obtain ⟨-, hcl, hat⟩ := World.cells?_some hcc
      obtain ⟨x, rfl, hox⟩ := hα cs' (kindsOf_sound d e ks hk n cs' _ htr)
      refine ⟨x, cellsAt_of fun j u hj => ?_, hox⟩
      have hjl : j < E.sz := by
        rw [← hcl]
        rcases Nat.lt_or_ge j (E.f x).length with h' | h'
        · exact h'
        · rw [List.getElem?_eq_none h'] at hj; cases hj
      rw [Nat.zero_add, hat j hjl]; exact hj
    have : ∀ n, n ≤ len → ∃ l : List α, l.length = n ∧ (∀ i x, l[i]? = some x → CellsAt w (a.add (i * E.sz)) 0 (E.f x)) ∧ ∀ x ∈ l, ok x := by
      intro n
      induction n with
      | zero => intro _; exact ⟨[], rfl, by simp, by simp⟩
      | succ n ih =>
        intro hn
        obtain ⟨l, h1, h2, h3⟩ := ih (by omega)
        obtain ⟨x, hx1, hx2⟩ := hel n (by omega)
        refine ⟨l ++ [x], by simp [h1], fun i y hy => ?_, fun y hy => ?_⟩
        · by_cases hil : i < l.length
          · rw [List.getElem?_append_left hil] at hy; exact h2 i y hy
          · rw [List.getElem?_append_right (by omega)] at hy
            have : i - l.length = 0 := by
              rcases Nat.eq_zero_or_pos (i - l.length) with h' | h'
              · exact h'
              · rw [List.getElem?_eq_none (by simp; omega)] at hy; cases hy
            rw [this] at hy; simp at hy; subst hy
            rwa [show i = n from by omega]
        · rcases List.mem_append.1 hy with hy | hy
          · exact h3 y hy
          · simp at hy; subst hy; exact hx2
    obtain ⟨l, h1, h2, h3⟩ := this len (Nat.le_refl _)
    exact ⟨some a, len, cap, l, hv, ⟨fun i x hx => ⟨a, rfl, h2 i x hx⟩, h1.symm, fun h => (by cases h), hl⟩, h3, Nat.le_trans hl hm, .inr ⟨_, _, (Prod.ext_iff.1 hx).1, by simp⟩⟩

/-- a struct of such kinds -/
def isStruct (P : Program) (t : TypeId) : Bool := match P.underlying t with
  | some (.struct _) => true
  | _ => false
theorem isStruct.elim {t : TypeId} (h : isStruct P t = true) : ∃ fs, P.underlying t = some (.struct fs) := by
  unfold isStruct at h
  split at h
  · exact ⟨_, by assumption⟩
  · cases h
/-- a number -/
theorem open_int {t : TypeId} {k : IntKind} {w : World} {spare : Nat → Bool} {held : Bool} {v : Value} {dt : DataW H} {ps : List MemPlace} (ht : P.underlying t = some (.int k))
    {r : Reach} {b0 : Nat} (hval : Value.okWide P w r b0 t v) (h : DataW.Trod enc P w 0 spare held t v dt ps) : ∃ n, v = .int k n ∧ (Lit.int k n).wf = true := by
  obtain ⟨n, rfl⟩ := okWide_int ht hval
  obtain ⟨fuel, h⟩ := h
  obtain ⟨m, hm, -, hw⟩ := DataW.trod_int ht h
  simp [Value.cells] at hm
  subst hm
  exact ⟨n, rfl, hw⟩

/-- what a sized argument's length is -/
theorem sized_len {ts : List TypeId} {ds : List (DataW H)} (h : (DataW.weightsEach P ts ds).all (· ≤ reachBytes) = true) {j : Nat} {t e : TypeId} {d : DataW H} {n B : Nat} (ht : ts[j]? = some t) (hd : ds[j]? = some d) (hu : P.underlying t = some (.slice e)) (hB : P.bytesOf e = B)
    (hs : (d = .nil ∧ n = 0) ∨ ∃ es sp, d = .slice es sp ∧ es.length = n) : n * B ≤ 140737488351232 := by
  rcases hs with ⟨-, rfl⟩ | ⟨es, sp, rfl, rfl⟩
  · omega
  · have := sized_slice h ht hd hu
    rw [hB] at this
    have h2 : es.length * B ≤ (es.length + sp.length) * B := Nat.mul_le_mul_right _ (by omega)
    have h3 : reachBytes = 140737488351232 := by decide
    omega
end
end Go.Sx
