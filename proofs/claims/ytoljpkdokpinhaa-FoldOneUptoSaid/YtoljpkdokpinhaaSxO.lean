/- Rows as lists of cells: copy, clear, room made by append of zeros. Conditions: none. -/
import Derived.Test.YtoljpkdokpinhaaSxN
import Derived.Laws.IdiomCopy
namespace Go.Sx
set_option linter.unusedSimpArgs false
set_option linter.unusedVariables false
section
variable {P : Program} {α : Type}

/-- a row that may be written -/
def Row (w : World) (g : Nat) (e : TypeId) (cs : List Value) : Prop := w.heap[g]? = some (.cells cs.toArray e (0, 0))

theorem Own.row {w : World} {B : Nat} {e : TypeId} {E : Enc α} {a : Option Addr} {n c : Nat} {l : List α} (h : Own w B e E a n c l) :
    (a = none ∧ l = [] ∧ n = 0 ∧ c = 0) ∨ ∃ g cs, a = some ⟨g, 0, none⟩ ∧ B ≤ g ∧ Row w g e cs ∧ n = l.length ∧ n ≤ c ∧ c ≤ maxLen ∧ cs.length = c * E.sz ∧ cs.take (n * E.sz) = l.flatMap E.f := by
  rcases h.out with h | ⟨g, cur, h1, h2, h3, h4, h5, h6, h7, h8⟩
  · exact .inl h
  · exact .inr ⟨g, cur.toList, h1, h2, by simpa [Row] using h3, h4, h5, h6, by simpa using h7, h8⟩
theorem Own.ofRow {w : World} {B : Nat} {e : TypeId} {E : Enc α} {n c g : Nat} {cs : List Value} {l : List α} (hn : n = l.length) (hb : B ≤ g) (hg : Row w g e cs) (h1 : n ≤ c) (h2 : c ≤ maxLen) (h3 : cs.length = c * E.sz) (h4 : cs.take (n * E.sz) = l.flatMap E.f) :
    Own w B e E (some ⟨g, 0, none⟩) n c l := Own.mk' hn hb hg h1 h2 (by simpa using h3) (by simpa using h4)
theorem Own.take {w : World} {B : Nat} {e : TypeId} {E : Enc α} {a : Option Addr} {n c : Nat} {l : List α} (h : Own w B e E a n c l) {k : Nat} (hk : k ≤ n) : Own w B e E a k c (l.take k) := by
  rcases h.row with ⟨rfl, rfl, rfl, rfl⟩ | ⟨g, cs, rfl, h2, h3, h4, h5, h6, h7, h8⟩
  · obtain rfl : k = 0 := by omega
    simpa using Own.nil _ _ _ _
  · refine Own.ofRow (by simp; omega) h2 h3 (by omega) h6 h7 ?_
    have : (l.take k).flatMap E.f = (l.flatMap E.f).take (k * E.sz) := by
      have hl : l.flatMap E.f = (l.take k).flatMap E.f ++ (l.drop k).flatMap E.f := by rw [← List.flatMap_append, List.take_append_drop]
      rw [hl, List.take_left' (by rw [flat_len, List.length_take, Nat.min_eq_left (by omega)])]
    rw [this, ← h8, List.take_take, Nat.min_eq_left (Nat.mul_le_mul_right _ hk)]
theorem Row.cell {w : World} {g : Nat} {e : TypeId} {cs : List Value} (h : Row w g e cs) (o : Nat) : w.cell? ⟨g, o, none⟩ = cs[o]? := by rw [cell_row h]; simp
theorem Row.lt {w : World} {g : Nat} {e : TypeId} {cs : List Value} (h : Row w g e cs) : g < w.heap.size := lt_of_heap h
theorem Row.seen {w : World} {g : Nat} {e : TypeId} {cs : List Value} (h : Row w g e cs) : w.heap[g]? ≠ some hole := by rw [h]; simp [hole]
theorem Row.upd {S : Nat → Prop} {w w' : World} {g : Nat} {e : TypeId} {cs : List Value} (h : Row w g e cs) (hu : Upd S w w') (hn : ¬ S g) : Row w' g e cs := hu.heap hn h
theorem Row.grew {w w' : World} {g : Nat} {e : TypeId} {cs : List Value} (h : Row w g e cs) (hu : Grew w w') : Row w' g e cs := hu.heap h

/-- one cell of a row is written -/
theorem Row.set1 {w : World} {g : Nat} {e : TypeId} {cs : List Value} (h : Row w g e cs) {o : Nat} (ho : o < cs.length) (v : Value) :
    RoomAt w ⟨g, o, none⟩ 0 [v] ∧ Row (setCells w ⟨g, o, none⟩ 0 [v]) g e (cs.set o v) ∧ Upd (fun b => b = g) w (setCells w ⟨g, o, none⟩ 0 [v]) := by
  obtain ⟨h1, h2⟩ := setCell_row h o v
  refine ⟨roomAt_row (vs := [v]) h (by simp; omega), ?_, ?_⟩
  · show (setCells w ⟨g, o, none⟩ 0 [v]).heap[g]? = _
    simp only [setCells, add_mk, Nat.add_zero]
    rw [h1]; simp
  · simpa only [setCells, add_mk, Nat.add_zero] using h2

/-- slices in a slice -/
def Enc.slice : Enc (Option Addr × Nat × Nat) := ⟨1, fun p => [.slice p.1 p.2.1 p.2.2], fun _ => rfl, by decide, fun _ v h => by simp at h; subst h; rfl⟩
/-- this slice value reads as l -/
def Reads (w : World) (E : Enc α) (p : Option Addr × Nat × Nat) (l : List α) : Prop := Sl w p.1 E l ∧ p.2.1 = l.length ∧ (p.1 = none → p.2.2 = 0) ∧ p.2.1 ≤ p.2.2
theorem Reads.grew {w w' : World} {E : Enc α} {p : Option Addr × Nat × Nat} {l : List α} (h : Reads w E p l) (hg : Grew w w') : Reads w' E p l := ⟨h.1.grew hg, h.2⟩
theorem Reads.cut {w : World} {E : Enc α} {a : Option Addr} {n c : Nat} {l : List α} (h : Reads w E (a, n, c) l) {i j : Nat} (hij : i ≤ j) (hj : j ≤ n) :
    Reads w E (if c = i then a else a.map (fun x => x.add (i * E.sz)), j - i, c - i) ((l.take j).drop i) := by
  obtain ⟨h1, h2, h3, h4⟩ := h
  simp only at h1 h2 h3 h4
  subst h2
  refine ⟨(h1.take j).drop i c (by simp; omega) (by simp; omega), by simp; omega, fun hn => ?_, by simp only; omega⟩
  simp only at hn ⊢
  split at hn
  · omega
  · cases a with
    | none => have := h3 rfl; omega
    | some d => cases hn
theorem Reads.upd {S : Nat → Prop} {w w' : World} {E : Enc α} {p : Option Addr × Nat × Nat} {l : List α} (h : Reads w E p l) (hu : Upd S w w') (hn : ∀ b, Blk p.1 b → ¬ S b) : Reads w' E p l := ⟨h.1.upd hu hn, h.2⟩
theorem Reads.from {w : World} {E : Enc α} {a : Option Addr} {n c : Nat} {l : List α} (h : Reads w E (a, n, c) l) {i : Nat} (hi : i ≤ n) :
    Reads w E (if c = i then a else a.map (fun x => x.add (i * E.sz)), n - i, c - i) (l.drop i) := by
  have := h.cut (i := i) (j := n) hi (Nat.le_refl _)
  have hn : n = l.length := h.2.1
  rw [hn, List.take_length] at this
  rw [hn]; exact this
theorem Reads.at0 {w : World} {E : Enc α} {a : Option Addr} {n c : Nat} {l : List α} (h : Reads w E (a, n, c) l) {k : Nat} (hk : k < n) : ∃ d x, a = some d ∧ l[k]? = some x ∧ CellsAt w (d.add (k * E.sz)) 0 (E.f x) := by
  have hn : n = l.length := h.2.1
  have := h.1.at_ (n := k) (by omega) (by omega)
  simpa using this
theorem blk_cut {a : Option Addr} {b : Nat} {p : Prop} [Decidable p] {m : Nat} (h : Blk (if p then a else a.map (fun x => x.add m)) b) : Blk a b := by
  split at h
  · exact h
  · obtain ⟨d, hd, rfl⟩ := h
    cases a with
    | none => cases hd
    | some d' => simp only [Option.map_some, Option.some.injEq] at hd; exact ⟨d', rfl, by rw [← hd, add_block]⟩
theorem Own.reads {w : World} {B : Nat} {e : TypeId} {E : Enc α} {a : Option Addr} {n c : Nat} {l : List α} (h : Own w B e E a n c l) : Reads w E (a, n, c) l := ⟨h.sl, h.len, h.out_none, h.le.1⟩
theorem Fresh.reads {w w' : World} {e : TypeId} {E : Enc α} {v : Value} {l : List α} (h : Fresh w e E l v w') : ∃ a n c, v = .slice a n c ∧ Reads w' E (a, n, c) l ∧ Grew w w' := let ⟨a, n, c, h1, h2, h3⟩ := h; ⟨a, n, c, h1, h2.reads, h3⟩

/-- the cells of an element's type -/
theorem flat_cells {E : Enc α} {w : World} {d : Addr} {l : List α} (hs : Sl w (some d) E l) : ∀ (j : Nat) (u : Value), (l.flatMap E.f)[j]? = some u → w.cell? (d.add j) = some u := by
  intro j u hj
  have hjl : j < l.length * E.sz := by
    rw [← flat_len]
    rcases Nat.lt_or_ge j (l.flatMap E.f).length with h' | h'
    · exact h'
    · rw [List.getElem?_eq_none h'] at hj; cases hj
  have hdiv : j / E.sz < l.length := (Nat.div_lt_iff_lt_mul E.pos).2 hjl
  have hmod := Nat.mod_lt j E.pos
  obtain ⟨d', hd, hc⟩ := hs (j / E.sz) l[j / E.sz] (by simp [hdiv])
  cases hd
  have hj' := flat_get E l (j / E.sz) (j % E.sz) l[j / E.sz] (by simp [hdiv]) hmod
  have hjj : j / E.sz * E.sz + j % E.sz = j := by rw [Nat.mul_comm]; exact Nat.div_add_mod j E.sz
  rw [hjj, hj] at hj'
  have := cellsAt_get hc (j % E.sz) u hj'.symm
  rw [Nat.zero_add, Addr.add_add', hjj] at this
  exact this

theorem run_copy_any (w : World) (dT sT ty elem : TypeId) (i : TypeInfo) (g o dLen dCap : Nat) (a : Addr) (sLen sCap n : Nat) (cur : Array Value) (t : TypeId) (cs : List Value)
    (hu : P.underlying dT = some (.slice elem)) (hi : P.info? elem = some i)
    (hg : w.heap[g]? = some (.cells cur t (0, 0))) (hn : n = Nat.min sLen dLen) (hcs : cs.length = n * i.size)
    (hsrc : ∀ j v, cs[j]? = some v → w.cell? (a.add j) = some v) (hfit : o + cs.length ≤ cur.size) (h1 : ∀ v ∈ cs, v.oneCell' = true) :
    (Builtin.copy_ #[dT, sT] ty #[.slice (some ⟨g, o, none⟩) dLen dCap, .slice (some a) sLen sCap]).run P w =
      .ok (goInt n) (w.setRow g (cur.toList.take o ++ cs ++ cur.toList.drop (o + cs.length)).toArray) := by
  have hf := run_firstCells_some (P := P) w i.size n a sLen sCap cs hcs hsrc
  have hst := run_storeCells_at P g o t cs 0 cur w hg (by simpa using hfit) h1
  simp [Builtin.copy_, run_underlying hu, Builtin.lenOf, Go.sizeOf, typeInfo, hi, ← hn, hf, hst]
theorem run_copy_empty (w : World) (dT sT ty elem : TypeId) (i : TypeInfo) (d a : Option Addr) (dLen dCap sLen sCap : Nat) (hu : P.underlying dT = some (.slice elem)) (hi : P.info? elem = some i) (hn : Nat.min sLen dLen = 0) :
    (Builtin.copy_ #[dT, sT] ty #[.slice d dLen dCap, .slice a sLen sCap]).run P w = .ok (goInt 0) w := by
  have hl : ∀ (x : Addr), (loadCells x 0).run P w = .ok #[] w := fun x => by simpa using run_loadCells_list (P := P) w x [] (by simp)
  cases d <;> cases a <;> simp [Builtin.copy_, run_underlying hu, Builtin.lenOf, Builtin.firstCells, Go.sizeOf, typeInfo, hi, hn, storeCells, hl]

theorem World.setRow_other' (w : World) (g j : Nat) (cs : Array Value) (h : j ≠ g) : (w.setRow g cs).heap[j]? = w.heap[j]? := by
  have : ¬ g = j := fun e => h e.symm
  simp [World.setRow, Array.getElem?_modify, this]
theorem setRow_grown (w : World) (g : Nat) (cs : Array Value) : w.grownBy (w.setRow g cs) (some g) :=
  ⟨rfl, rfl, rfl, by simp, fun j _ hj => World.setRow_other' w g j cs (fun e => hj (by rw [e]))⟩

/-- copy into a row that may be written -/
theorem copy_into {t t2 ty e : TypeId} {bytes : Nat} {E : Enc α} {w : World} {g o dLen dCap sLen sCap n : Nat} {d a : Option Addr} {cur cs : List Value} {k : Value → World → Prop}
    (he : ElemOk P t e E.sz bytes) (hr : Row w g e cur) (hn : n = Nat.min sLen dLen) (hcs : cs.length = n * E.sz)
    (hd : n ≠ 0 → d = some ⟨g, o, none⟩) (hs : n ≠ 0 → ∃ x, a = some x ∧ ∀ j v, cs[j]? = some v → w.cell? (x.add j) = some v) (hfit : o + cs.length ≤ cur.length) (h1 : ∀ v ∈ cs, v.oneCell' = true)
    (hk : ∀ w', Row w' g e (splice cur o cs) → Upd (fun b => b = g) w w' → k (.int .i64 n) w') :
    SemW P (Builtin.copy_ #[t, t2] ty #[.slice d dLen dCap, .slice a sLen sCap]) k w := by
  obtain ⟨i, z, hu, hi, hz, hsz, hb, hzs⟩ := he
  refine SemW.of_run (some g) (fun b hb => by cases hb; exact hr.seen) fun w₀ hw => ?_
  have hr0 : Row w₀ g e cur := hw.at hr (by simp [hole])
  by_cases h0 : n = 0
  · subst h0
    obtain rfl : cs = [] := List.eq_nil_of_length_eq_zero (by simpa using hcs)
    refine ⟨_, w₀, run_copy_empty w₀ t t2 ty e i d a dLen dCap sLen sCap hu hi hn.symm, ⟨rfl, rfl, rfl, Nat.le_refl _, fun _ _ _ => rfl⟩, fun hg => ?_⟩
    refine hk _ ?_ ⟨hg.os, hg.tape, hg.output, hg.size, fun b hb hn => hg.block b hb (by simpa using hn)⟩
    show (remask w w₀).heap[g]? = _
    rw [remask_block hr.seen, show w₀.heap[g]? = _ from hr0]; simp [splice]
  · obtain ⟨x, rfl, hx⟩ := hs h0
    obtain rfl := hd h0
    have hrun := run_copy_any (P := P) w₀ t t2 ty e i g o dLen dCap x sLen sCap n cur.toArray e cs hu hi hr0 hn (by rw [hsz]; exact hcs) (fun j v hj => (hw.cell (hx j v hj)).1) (by simpa using hfit) h1
    refine ⟨_, _, hrun, setRow_grown _ _ _, fun hg => ?_⟩
    refine hk _ ?_ ⟨hg.os, hg.tape, hg.output, hg.size, fun b hb hn => hg.block b hb (by simpa using fun e => hn e)⟩
    show (remask w _).heap[g]? = _
    rw [remask_block hr.seen, setRow_heap w₀ g _ _ _ _ hr0]
    simp [splice]

theorem zeroCells_flat {E : Enc α} {z : Value} {x : α} (hz : z.cells.toList = E.f x) (m : Nat) : (Builtin.zeroCells z.cells m).toList = (List.replicate m x).flatMap E.f := by
  have hzs : z.cells.size = E.sz := by rw [← Array.length_toList, hz, E.len]
  apply List.ext_getElem?
  intro j
  by_cases hj : j < m * E.sz
  · have hdiv : j / E.sz < m := (Nat.div_lt_iff_lt_mul E.pos).2 hj
    have hmod := Nat.mod_lt j E.pos
    have h1 := flat_get E (List.replicate m x) (j / E.sz) (j % E.sz) x (by simp [hdiv]) hmod
    rw [show j / E.sz * E.sz + j % E.sz = j from by rw [Nat.mul_comm]; exact Nat.div_add_mod j E.sz] at h1
    rw [h1, ← hz]
    simp [Builtin.zeroCells, hj, hzs, hmod]
  · rw [List.getElem?_eq_none (by simp [Builtin.zeroCells, hzs]; omega), List.getElem?_eq_none (by rw [flat_len]; simp; omega)]

/-- clear of a part of a row -/
theorem clear_into {t ty e : TypeId} {bytes : Nat} {E : Enc α} {w : World} {g o n c : Nat} {d : Option Addr} {cur : List Value} {x : α} {k : Value → World → Prop}
    (hu : P.underlying t = some (.slice e)) {z : Value} (hi : (P.info? e).map (fun i => (i.zero, i.size, i.bytes)) = some (some z, E.sz, bytes)) (hz : z.cells.toList = E.f x)
    (hr : Row w g e cur) (hd : n ≠ 0 → d = some ⟨g, o, none⟩) (hfit : o + n * E.sz ≤ cur.length)
    (hk : ∀ w', Row w' g e (splice cur o ((List.replicate n x).flatMap E.f)) → Upd (fun b => b = g) w w' → k (.tuple #[]) w') :
    SemW P (Builtin.clear_ #[t] ty #[.slice d n c]) k w := by
  cases hii : P.info? e with
  | none => rw [hii] at hi; cases hi
  | some i =>
    rw [hii] at hi
    simp only [Option.map_some, Option.some.injEq, Prod.mk.injEq] at hi
    refine SemW.of_run (some g) (fun b hb => by cases hb; exact hr.seen) fun w₀ hw => ?_
    have hr0 : Row w₀ g e cur := hw.at hr (by simp [hole])
    by_cases h0 : n = 0
    · subst h0
      refine ⟨.tuple #[], w₀, ?_, ⟨rfl, rfl, rfl, Nat.le_refl _, fun _ _ _ => rfl⟩, fun hg => ?_⟩
      · cases d <;> simp [Builtin.clear_, run_underlying hu]
      · refine hk _ ?_ ⟨hg.os, hg.tape, hg.output, hg.size, fun b hb hn => hg.block b hb (by simpa using hn)⟩
        show (remask w w₀).heap[g]? = _
        rw [remask_block hr.seen, show w₀.heap[g]? = _ from hr0]; simp [splice]
    · obtain rfl := hd h0
      have hzc := zeroCells_flat hz n
      have hl : ((List.replicate n x).flatMap E.f).length = n * E.sz := by rw [flat_len]; simp
      have hst := run_storeCells_at P g o e ((List.replicate n x).flatMap E.f) 0 cur.toArray w₀ hr0 (by rw [hl]; simpa using hfit) (flat_one E _)
      rw [← hzc] at hst
      have hrun : (Builtin.clear_ #[t] ty #[.slice (some ⟨g, o, none⟩) n c]).run P w₀ = .ok (.tuple #[]) (w₀.setRow g (cur.take o ++ (List.replicate n x).flatMap E.f ++ cur.drop (o + n * E.sz)).toArray) := by
        have hzl : (Builtin.zeroCells z.cells n).size = n * E.sz := by rw [← Array.length_toList, hzc, hl]
        cases n with
        | zero => exact absurd rfl h0
        | succ n =>
          simp only [Nat.add_zero, Array.length_toList, hzl] at hst
          simp [Builtin.clear_, run_underlying hu, zeroValue, typeInfo, hii, hi.1, hst, ← hzc]
      refine ⟨_, _, hrun, setRow_grown _ _ _, fun hg => ?_⟩
      refine hk _ ?_ ⟨hg.os, hg.tape, hg.output, hg.size, fun b hb hn => hg.block b hb (by simpa using fun e => hn e)⟩
      show (remask w _).heap[g]? = _
      rw [remask_block hr.seen, setRow_heap w₀ g _ _ _ _ hr0]
      simp [splice, E.len]

/-- append of zeros where there is no room: a new row -/
theorem append_zeros {t tn ty e : TypeId} {kn k0 : IntKind} {B bytes : Nat} {E : Enc α} {w : World} {a : Option Addr} {n c m : Nat} {l : List α} {x : α} {k : Value → World → Prop}
    (hu : P.underlying t = some (.slice e)) (hun : P.underlying tn = some (.int kn)) {z : Value} (hi : (P.info? e).map (fun i => (i.zero, i.size, i.bytes)) = some (some z, E.sz, bytes)) (hz : z.cells.toList = E.f x)
    (ho : Own w B e E a n c l) (hroom : c < n + m) (h63 : n + m ≤ maxLen) (hby : (n + m) * bytes ≤ 140737488355328)
    (hk : ∀ b c' w', w.heap.size ≤ b → Own w' b e E (some ⟨b, 0, none⟩) (n + m) c' (l ++ List.replicate m x) → Grew w w' → k (.slice (some ⟨b, 0, none⟩) (n + m) c') w') :
    SemW P (Builtin.append_ #[t, tn] ty #[.slice a n c, .int k0 m]) k w := by
  cases hii : P.info? e with
  | none => rw [hii] at hi; cases hi
  | some i =>
    rw [hii] at hi
    simp only [Option.map_some, Option.some.injEq, Prod.mk.injEq] at hi
    obtain ⟨hz1, hs1, hb1⟩ := hi
    have hle := ho.le
    have hm0 : m ≠ 0 := by omega
    refine SemW.of_run none (by simp) fun w₀ hw => ?_
    have hlo : (l.flatMap E.f).length = n * i.size := by rw [flat_len, hs1, ← ho.len]
    have hfo : (Builtin.firstCells i.size n (.slice a n c)).run P w₀.drew = .ok (l.flatMap E.f).toArray w₀.drew := by
      rcases ho.out with ⟨rfl, rfl, rfl, rfl⟩ | ⟨g, cur, rfl, hb, hg, hn, h1, h2, h3, h4⟩
      · simp [Builtin.firstCells]
      · exact run_firstCells_some (P := P) w₀.drew i.size n _ n c _ hlo fun j v hj => (hw.cell (flat_cells ho.sl j v hj)).1
    have hnx : Builtin.nextslicecap (n + m) c * i.bytes ≤ 281474976710656 := growslice_fits hroom (by rw [hb1]; exact hby)
    have hrun : (Builtin.append_ #[t, tn] ty #[.slice a n c, .int k0 m]).run P w₀ = .ok (.slice (some ⟨w₀.heap.size, 0, none⟩) (n + m) (grownCap w₀ (n + m) c e))
        (w₀.drew.alloc (.cells ((l.flatMap E.f).toArray ++ Builtin.zeroCells z.cells m ++ Builtin.zeroCells z.cells (grownCap w₀ (n + m) c e - (n + m))) e)) := by
      have hsm : n + m ≤ 9223372036854775807 := by simpa [maxLen] using h63
      have hw63 : IntKind.i64.wrap (m : Int) = m := by rw [IntKind.wrap_i64]; omega
      have hneg : ¬ ((m : Int) < 0) := by omega
      have h48i : ¬ (281474976710656 < (m : Int) * (i.bytes : Int)) := by
        have : m * i.bytes ≤ (n + m) * i.bytes := Nat.mul_le_mul_right _ (by omega)
        rw [hb1] at this ⊢
        have h2 : ((m * bytes : Nat) : Int) ≤ 140737488355328 := by omega
        rw [Int.natCast_mul] at h2; omega
      have hns : ¬ (m * i.size = 0) := Nat.mul_ne_zero hm0 (by rw [hs1]; have := E.pos; omega)
      have h1 : ¬ (n + m ≤ c) := by omega
      have h63' : ¬ (9223372036854775807 < ((n : Int) + (m : Int))) := by omega
      have h48' : ¬ (281474976710656 < Builtin.nextslicecap (n + m) c * i.bytes) := by omega
      simp [Builtin.append_, run_underlying hu, run_underlying hun, Go.sizeOf, typeInfo, zeroValue, hii, hz1, asInt, asIntOf, hw63, hneg, hns, h1, h63', h48', h48i, Question.forced, hfo, newRow, grownCap]
    have hge := grownCap_ge w₀ (n + m) c e
    refine ⟨_, _, hrun, ⟨rfl, rfl, rfl, by simp, fun j hj _ => heap_alloc_old w₀.drew _ hj⟩, fun hg => hk _ _ _ (by rw [hw.size]; exact Nat.le_refl _) ?_ ⟨hg.os, hg.tape, hg.output, hg.size, fun b hb => hg.block b hb (by simp)⟩⟩
    have hzl : ∀ q, (Builtin.zeroCells z.cells q).size = q * E.sz := fun q => by rw [← Array.length_toList, zeroCells_flat hz, flat_len]; simp
    refine Own.mk' (by simp [ho.len]) (Nat.le_refl _) (cur := (l.flatMap E.f).toArray ++ Builtin.zeroCells z.cells m ++ Builtin.zeroCells z.cells (grownCap w₀ (n + m) c e - (n + m))) ?_ hge (grownCap_le_maxLen _ _ _ _ h63) ?_ ?_
    · rw [remask_block (by intro he; have := lt_of_heap he; have := hw.size; omega)]
      exact heap_alloc_new w₀.drew _
    · simp only [Array.size_append, List.size_toArray, hzl, flat_len, ← ho.len, ← Nat.add_mul]
      congr 1; omega
    · simp only [Array.toList_append, zeroCells_flat hz, List.flatMap_append]
      rw [List.take_left' (by rw [List.length_append, flat_len, flat_len, ← ho.len, Nat.add_mul]; simp)]

theorem splice_low {α : Type} (L A V D : List α) (hA : L.take A.length = A) (hl : A.length + V.length + D.length ≤ L.length) :
    (splice (splice L (A.length + V.length) D) A.length V).take (A.length + V.length + D.length) = A ++ (V ++ D) := by
  have hi : splice L (A.length + V.length) D = L.take (A.length + V.length) ++ (D ++ L.drop (A.length + V.length + D.length)) := rfl
  have h1 : (L.take (A.length + V.length)).length = A.length + V.length := by simp; omega
  have h2 : (splice L (A.length + V.length) D).take A.length = A := by
    rw [hi, List.take_append_of_le_length (by omega), List.take_take, Nat.min_eq_left (by omega), hA]
  have h3 : (splice L (A.length + V.length) D).drop (A.length + V.length) = D ++ L.drop (A.length + V.length + D.length) := by rw [hi, List.drop_left' h1]
  unfold splice at h2 h3 ⊢
  rw [h2, h3, ← List.append_assoc, ← List.append_assoc, List.take_left' (by simp; omega), List.append_assoc]
theorem splice_high {α : Type} (L A V D : List α) (hA : L.take A.length = A) (hl : A.length + V.length + D.length ≤ L.length) :
    (splice (splice L A.length V) (A.length + V.length) D).take (A.length + V.length + D.length) = A ++ (V ++ D) := by
  have hi : splice L A.length V = A ++ (V ++ L.drop (A.length + V.length)) := by unfold splice; rw [hA]
  rw [hi]
  unfold splice
  have h1 : (A ++ (V ++ L.drop (A.length + V.length))).take (A.length + V.length) = A ++ V := by rw [← List.append_assoc, List.take_left' (by simp)]
  rw [h1, ← List.append_assoc, List.take_left' (by simp; omega), List.append_assoc]
theorem splice_len {α : Type} (L D : List α) (o : Nat) (h : o + D.length ≤ L.length) : (splice L o D).length = L.length := by unfold splice; simp; omega
theorem splice_take {α : Type} (L D : List α) (o k : Nat) (hk : k ≤ o) (ho : o ≤ L.length) : (splice L o D).take k = L.take k := by
  unfold splice
  rw [List.take_append_of_le_length (by simp; omega), List.take_take, Nat.min_eq_left hk]
theorem flat_take (E : Enc α) (l : List α) (k : Nat) (hk : k ≤ l.length) : (l.take k).flatMap E.f = (l.flatMap E.f).take (k * E.sz) := by
  have hl : l.flatMap E.f = (l.take k).flatMap E.f ++ (l.drop k).flatMap E.f := by rw [← List.flatMap_append, List.take_append_drop]
  rw [hl, List.take_left' (by rw [flat_len, List.length_take, Nat.min_eq_left hk])]
/-- where a cut of a row lies -/
theorem cut_addr {g o k c sz : Nat} : (if c = k then (some ⟨g, o, none⟩ : Option Addr) else Option.map (fun x : Addr => x.add (k * sz)) (some (⟨g, o, none⟩ : Addr))) = if c = k then some ⟨g, o, none⟩ else some ⟨g, o + k * sz, none⟩ := by
  split
  · rfl
  · simp [add_mk]
end
end Go.Sx
