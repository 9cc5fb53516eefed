/- What is asked of an operation that leaves the world alone suffices. Conditions: none. -/
import Derived.Test.YtbmmaibbiahkkaaGreatDoorSxD
namespace Go.Sx
set_option linter.unusedSimpArgs false
section
variable {P : Program} {H : Dq}
def Cs (o : Oper) (a : Act) (w₀ w₁ : World) : Prop := ∀ t x ad, o.op = .load t x → a.eval x = .pointer (some ad) → w₁.heap[ad.block]? = w₀.heap[ad.block]?
theorem Cs.of_heap {o : Oper} {a : Act} {w₀ w₁ : World} (h : w₁.heap = w₀.heap) : Cs o a w₀ w₁ := fun _ _ _ _ _ => by rw [h]
theorem add_block (a : Addr) (n : Nat) : (a.add n).block = a.block := by unfold Addr.add; split <;> rfl
theorem Gb {t : TypeId} {f n : Nat} (h : Hp P t f = some n) (ad : Addr) (w : World) : (Instr.fieldAt t (.pointer (some ad)) f).run P w = .ok (.pointer (some (ad.add n))) w := by
 unfold Hp at h
 split at h
 ·rename_i fs hu
  split at h
  ·rename_i fd hf
   split at h
   ·rename_i k hs
    simp only [Option.some.injEq] at h; subst h
    simp [Instr.fieldAt, Ad hu, hf, Instr.sureAddr, fieldPlace, Aq hs]
   ·cases h
  ·cases h
 ·cases h
theorem Iz {t e : TypeId} {sz len cap : Nat} {b : Addr} {k : IntKind} {n : Int} (hu : P.underlying t = some (.slice e)) (hs : sizeOf P e = some sz) (h : 0 ≤ n ∧ n < len) (w : World) :
  (Instr.indexAt t (.slice (some b) len cap) (.int k n)).run P w = .ok (.pointer (some (b.add (n.toNat * sz)))) w := by
 simp [Instr.indexAt, asIntOf, Ad hu, h, Aq hs]
theorem Fl {t e : TypeId} {sz len : Nat} {b : Addr} {k : IntKind} {n : Int} (hu : P.underlying t = some (.array len e)) (hs : sizeOf P e = some sz) (h : 0 ≤ n ∧ n < len) (w : World) :
  (Instr.indexAt t (.pointer (some b)) (.int k n)).run P w = .ok (.pointer (some (b.add (n.toNat * sz)))) w := by
 simp [Instr.indexAt, asIntOf, Ad hu, h, Aq hs, Instr.sureAddr]
theorem Aw {k : IntKind} {n : Int} {y : Nat} {code : BoundsCode} (h : 0 ≤ n ∧ n ≤ y) (w : World) : (Instr.sliceBound (.int k n) y code).run P w = .ok n.toNat w := by
 simp [Instr.sliceBound, asIntOf, h]
theorem Fo {t el : TypeId} (hu : P.underlying t = some (.pointer el)) (p : Option Addr) (w : World) : (Op.equal t (.pointer p) (.pointer none)).run P w = .ok p.isNone w := by
 show (Op.equalIn (9999 + 1) t _ _).run P w = _
 rw [Op.equalIn]
 simp only [Sem.run_bind, Ad hu, Result.andThen_ok]
 cases p <;> rfl
theorem Eh {t el : TypeId} (hu : P.underlying t = some (.slice el)) (p : Option Addr) (n c n' c' : Nat) (w : World) : (Op.equal t (.slice p n c) (.slice none n' c')).run P w = .ok p.isNone w := by
 show (Op.equalIn (9999 + 1) t _ _).run P w = _
 rw [Op.equalIn]
 simp only [Sem.run_bind, Ad hu, Result.andThen_ok]
 cases p <;> rfl
theorem Ny {t : TypeId} (h : (match P.underlying t with | some (.pointer _) => true | _ => false) = true) : ∃ el, P.underlying t = some (.pointer el) := by
 split at h
 ·exact ⟨_, ‹_›⟩
 ·cases h
theorem Kl {t : TypeId} (h : (match P.underlying t with | some (.slice _) => true | _ => false) = true) : ∃ el, P.underlying t = some (.slice el) := by
 split at h
 ·exact ⟨_, ‹_›⟩
 ·cases h
theorem H1 {F : List (Nat × LB)} {o : Oper} {s : DS} {k : EV → DS → World → Prop} {pn : List PanicEntry → World → Prop} {w w₀ wi wi₀ : World} {n : Nat} {a : Act} {ρ : Nat → Nat} {t : TypeId} {x : Operand} (ho : o.op = .load t x)
  (h : Al P H F o s k pn w) (hr : Rel wi wi₀ n F s a w w₀ ρ) : ∃ e, k e s w ∧ ∀ w₁ : World, Cs o a w₀ w₁ → (execOp a.eval o).run P w₁ = .ok (.value (conc ρ e)) w₁ := by
 unfold Al at h
 simp only [ho] at h
 have hx : ∀ w, (execOp a.eval o).run P w = ((Instr.loadAt t (a.eval x)).run P w).andThen (fun v w => .ok (.value v) w) := by
  intro w; simp only [execOp, ho, Sem.run_bind, Sem.run_pure]
 rcases Cc hr.env h with ⟨id, off, he, hp⟩ | ⟨ad, he, hp⟩
 ·split at hp
  ·rename_i lb hl hb
   obtain ⟨-, hblk, -⟩ := hr.loc id lb hl
   split at hp
   ·rename_i v hv
    refine ⟨_, hp, fun w₁ hw => ?_⟩
    have hc : w₁.cell? ⟨ρ id, off, none⟩ = some v := by rw [cell_of_block (by rw [hw _ _ _ ho he]; exact hblk), ← Kk]; exact hv
    rw [hx, he]; simp only [Instr.loadAt, Instr.sureAddr, pure_bind, Bf hb hc, Result.andThen_ok]; rfl
   ·exact hp.elim
  ·rename_i lb hl hb
   obtain ⟨-, hblk, -⟩ := hr.loc id lb hl
   split at hp
   ·rename_i m hm
    obtain ⟨hg, hk⟩ := Ab hp
    refine ⟨_, hk, fun w₁ hw => ?_⟩
    have hle : off + m ≤ lb.cells.length := Nat.le_of_ble_eq_true hg
    rw [Hz, Ga]
    have hlen : ((lb.cells.drop off).take m).length = m := by simp; omega
    have hc : Ah w₁ ⟨ρ id, off, none⟩ 0 ((lb.cells.drop off).take m) := H0 (by rw [hw _ _ _ ho he]; exact hblk) off _ 0 fun j v hj => by
     rw [List.getElem?_take] at hj
     split at hj
     ·rw [List.getElem?_drop] at hj; simpa using hj
     ·cases hj
    rw [hx, he]; simp only [Instr.loadAt, Instr.sureAddr, pure_bind, Cm hb hm hlen hc, Result.andThen_ok]; rfl
   ·exact hp.elim
  ·exact hp.elim
 ·split at hp
  ·rename_i z hb hz
   obtain ⟨v, hc, hk⟩ := Hi hp
   refine ⟨_, hk, fun w₁ hw => ?_⟩
   have hc' : w₁.cell? ad = some v := by
    have := (hr.hides.cell hc).1
    simpa only [World.cell?, hw _ _ _ ho he] using this
   rw [hx, he]; simp only [Instr.loadAt, Instr.sureAddr, pure_bind, Bf hb hc', Result.andThen_ok]; rfl
  ·rename_i cs m hb hz hm
   obtain ⟨hg, hk⟩ := Ab hp
   -- the shape's list has as many values as the type has cells
   have key : ∀ (l : List S1) (φ : List Value → Prop), ex1L l φ → ∃ vs, vs.length = l.length ∧ φ vs := by
    intro l
    induction l with
    | nil => intro φ h; exact ⟨[], rfl, h⟩
    | cons s r ih =>
     intro φ h
     obtain ⟨v, h⟩ := Hh h
     obtain ⟨vs, hl, h⟩ := ih _ h
     exact ⟨v :: vs, by simp [hl], h⟩
   have hof : ∀ l : List Value, (S1.ofL l).length = l.length := by
    intro l; induction l with
    | nil => rfl
    | cons v r ih => simp [S1.ofL, ih]
   obtain ⟨vs, hl, hc, hk⟩ := key _ _ hk
   refine ⟨_, hk, fun w₁ hw => ?_⟩
   have hlen : vs.length = m := by rw [hl, hof]; exact C2 hg
   have hc' : Ah w₁ ad 0 vs := by
    have tr : ∀ (vs : List Value) (i : Nat), Ah w ad i vs → Ah w₁ ad i vs := by
     intro vs
     induction vs with
     | nil => intro i _; trivial
     | cons v r ih =>
      intro i hcc
      refine ⟨?_, ih _ hcc.2⟩
      have := (hr.hides.cell hcc.1).1
      simpa only [World.cell?, add_block, hw _ _ _ ho he] using this
    exact tr vs 0 hc
   rw [hx, he]; simp only [Instr.loadAt, Instr.sureAddr, pure_bind, Cm hb hm hlen hc', Result.andThen_ok]; rfl
  ·exact hp.elim
theorem Es {F : List (Nat × LB)} {o : Oper} {s : DS} {k : EV → DS → World → Prop} {pn : List PanicEntry → World → Prop} {w w₀ wi wi₀ : World} {n : Nat} {a : Act} {ρ : Nat → Nat} (hq : As H o = true)
  (h : Al P H F o s k pn w) (hr : Rel wi wi₀ n F s a w w₀ ρ) : ∃ e, k e s w ∧ ∀ w₁ : World, Cs o a w₀ w₁ → (execOp a.eval o).run P w₁ = .ok (.value (conc ρ e)) w₁ := by
 have ev : ∀ {x : Operand} {v : Value}, opv s.env x = some v → a.eval x = v := fun h => Dt hr.env h
 have gen : Cg H o = false → Ca P H o s k w → ∃ e, k e s w ∧ ∀ w₁ : World, Cs o a w₀ w₁ → (execOp a.eval o).run P w₁ = .ok (.value (conc ρ e)) w₁ := fun hs hd =>
  let ⟨e, h1, h2⟩ := G5 hr.env hs hd; ⟨e, h1, fun w₁ _ => h2 w₁⟩
 cases ho : o.op <;> (try (simp [As, ho] at hq; done))
 case load t x => exact H1 ho h hr
 case move x =>
  simp only [Al, ho] at h
  split at h
  ·rename_i e he; exact ⟨e, h, fun w₁ _ => by simp only [execOp, ho, Sem.run_pure, A2 hr.env he]⟩
  ·exact h.elim
 case assign x =>
  simp only [Al, ho] at h
  split at h
  ·rename_i e he; exact ⟨e, h, fun w₁ _ => by simp only [execOp, ho, Sem.run_pure, A2 hr.env he]⟩
  ·exact h.elim
 case pick c x y =>
  simp only [Al, ho] at h
  split at h
  ·rename_i hc
   split at h
   ·rename_i e he
    refine ⟨e, h, fun w₁ _ => ?_⟩
    have := A2 hr.env hc
    simp only [execOp, ho, this, conc, asBool, Sem.run_bind, Sem.run_pure, Result.andThen_ok, if_true, A2 hr.env he]
   ·exact h.elim
  ·rename_i hc
   split at h
   ·rename_i e he
    refine ⟨e, h, fun w₁ _ => ?_⟩
    have := A2 hr.env hc
    simp only [execOp, ho, this, conc, asBool, Sem.run_bind, Sem.run_pure, Result.andThen_ok, Bool.false_eq_true, if_false, A2 hr.env he]
   ·exact h.elim
  ·exact h.elim
 case nilCheck x =>
  simp only [Al, ho] at h
  rcases Cc hr.env h with ⟨id, off, he, hp⟩ | ⟨ad, he, hp⟩
  ·exact ⟨_, hp, fun w₁ _ => by simp only [execOp, ho, he, conc]; rfl⟩
  ·exact ⟨_, hp, fun w₁ _ => by simp only [execOp, ho, he, conc]; rfl⟩
 case fieldAddr t x f =>
  simp only [Al, ho] at h
  split at h
  ·rename_i m hf
   have hx : ∀ w, (execOp a.eval o).run P w = ((Instr.fieldAt t (a.eval x) f).run P w).andThen (fun v w => .ok (.value v) w) := by
    intro w; simp only [execOp, ho, Sem.run_bind, Sem.run_pure]
   rcases Cc hr.env h with ⟨id, off, he, hp⟩ | ⟨ad, he, hp⟩
   ·exact ⟨_, hp, fun w₁ _ => by rw [hx, he, Gb hf, Bj]; rfl⟩
   ·exact ⟨_, hp, fun w₁ _ => by rw [hx, he, Gb hf]; rfl⟩
  ·exact h.elim
 case indexAddr t x i =>
  simp only [Al, ho] at h
  have hx : ∀ w, (execOp a.eval o).run P w = ((Instr.indexAt t (a.eval x) (a.eval i)).run P w).andThen (fun v w => .ok (.value v) w) := by
   intro w; simp only [execOp, ho, Sem.run_bind, Sem.run_pure]
  split at h
  ·rename_i kd m e hi hu
   split at h
   ·rename_i base len cap sz hb hs
    obtain ⟨b, rfl, hlt, hk⟩ := Cr h
    exact ⟨_, hk, fun w₁ _ => by rw [hx, ev hb, ev hi, Iz hu hs hlt]; rfl⟩
   ·exact h.elim
  ·rename_i kd m len e hi hu
   split at h
   ·rename_i sz hs
    rcases Cc hr.env h with ⟨id, off, he, hlt, hp⟩ | ⟨ad, he, hlt, hp⟩
    ·exact ⟨_, hp, fun w₁ _ => by rw [hx, he, ev hi, Fl hu hs hlt, Bj]; rfl⟩
    ·exact ⟨_, hp, fun w₁ _ => by rw [hx, he, ev hi, Fl hu hs hlt]; rfl⟩
   ·exact h.elim
  ·exact h.elim
 case index t x i =>
  have hs : Cg H o = false := by simpa [As, ho] using hq
  simp only [Al, ho, hs] at h
  split at h
  ·rename_i str kd m hxs hi hu
   obtain ⟨b, ⟨h0, hb⟩, hk⟩ := h
   refine ⟨_, hk, fun w₁ _ => ?_⟩
   have hb' : str[m.toNat]? = some b := by
    have : str[m.toNat]? = str.data[m.toNat]? := by simp only [getElem?_def]; rfl
    rw [this]; exact hb
   simp only [execOp, ho, ev hxs, ev hi, Instr.index, asIntOf, Sem.run_bind, Ad hu, Sem.run_pure, Result.andThen_ok, h0, if_true, hb']
   rfl
  ·exact gen hs h
 case slice t x lo hi mx =>
  cases mx with
  | some m => simp only [Al, ho] at h
  | none =>
  simp only [Al, ho] at h
  split at h
  ·rename_i e base len cap hu hxs
   split at h
   ·exact h.elim
   ·rename_i sz hs
    have hx : ∀ w, (execOp a.eval o).run P w = ((Instr.slice t (.slice base len cap) (lo.map a.eval) (hi.map a.eval) none).run P w).andThen (fun v w => .ok (.value v) w) := by
     intro w; simp only [execOp, ho, Sem.run_bind, Sem.run_pure, ev hxs, Option.map_none, Instr.sliceAt, Ad hu, Result.andThen_ok]
    have fin : ∀ (hh : Nat), C9 s.env lo base hh cap sz (fun v => k (.val v) s w) → (∀ w₁, (match hi.map a.eval with | some v => Instr.sliceBound v cap .sliceAcap | none => (pure len : Sem Nat)).run P w₁ = .ok hh w₁) →
      ∃ e, k e s w ∧ ∀ w₁ : World, Cs o a w₀ w₁ → (execOp a.eval o).run P w₁ = .ok (.value (conc ρ e)) w₁ := by
     intro hh hf hb
     unfold C9 at hf
     cases lo with
     | none =>
      refine ⟨_, hf, fun w₁ _ => ?_⟩
      rw [hx]
      have hb1 := hb w₁
      cases hi with
      | none =>
       simp only [Option.map_none, Sem.run_pure, Result.ok.injEq, and_true] at hb1
       subst hb1
       simp [Instr.slice, Instr.sliceBounds, Ad hu, Aq hs, conc, Addr.add]
      | some y =>
       simp only [Option.map_some] at hb1
       simp [Instr.slice, Instr.sliceBounds, Ad hu, Aq hs, conc, Addr.add, hb1]
     | some y =>
      simp only at hf
      split at hf
      ·rename_i kd l hl
       obtain ⟨hll, hk⟩ := hf
       refine ⟨_, hk, fun w₁ _ => ?_⟩
       rw [hx]
       have hb1 := hb w₁
       cases hi with
       | none =>
        simp only [Option.map_none, Sem.run_pure, Result.ok.injEq, and_true] at hb1
        subst hb1
        simp [Instr.slice, Instr.sliceBounds, Ad hu, Aq hs, conc, ev hl, Aw hll]
       | some z =>
        simp only [Option.map_some] at hb1
        simp [Instr.slice, Instr.sliceBounds, Ad hu, Aq hs, conc, ev hl, hb1, Aw hll]
      ·exact hf.elim
    cases hi with
    | none => exact fin len h (fun w₁ => rfl)
    | some y =>
     simp only at h
     split at h
     ·rename_i kd m hm
      obtain ⟨hb, hf⟩ := h
      exact fin m.toNat hf (fun w₁ => by simp only [Option.map_some, ev hm, Aw hb])
     ·exact h.elim
  ·rename_i n el p hu hxs
   split at h
   ·exact h.elim
   ·rename_i sz hs
    obtain ⟨b, rfl, h⟩ := Cr h
    have hx : ∀ w, (execOp a.eval o).run P w = ((do
      let (l, h, m) ← Instr.sliceBounds false n n (lo.map a.eval) (hi.map a.eval) none
      let size ← Go.sizeOf el
      pure (.slice (some (if m = l then b else b.add (l * size))) (h - l) (m - l)) : Sem Value).run P w).andThen (fun v w => .ok (.value v) w) := by
     intro w; simp only [execOp, ho, Sem.run_bind, Sem.run_pure, ev hxs, Option.map_none, Instr.sliceAt, Instr.sureAddr, Ad hu, Result.andThen_ok]
    have fin : ∀ (hh : Nat), C9 s.env lo (some b) hh n sz (fun v => k (.val v) s w) → (∀ w₁, (match hi.map a.eval with | some v => Instr.sliceBound v n .sliceAlen | none => (pure n : Sem Nat)).run P w₁ = .ok hh w₁) →
      ∃ e, k e s w ∧ ∀ w₁ : World, Cs o a w₀ w₁ → (execOp a.eval o).run P w₁ = .ok (.value (conc ρ e)) w₁ := by
     intro hh hf hb
     have bm : ∀ (q : Prop) [Decidable q] (m : Nat), (some (if q then b else b.add m) : Option Addr) = if q then some b else Option.map (fun x => x.add m) (some b) := fun q _ m => by split <;> rfl
     unfold C9 at hf
     cases lo with
     | none =>
      refine ⟨_, hf, fun w₁ _ => ?_⟩
      rw [hx]
      have hb1 := hb w₁
      cases hi with
      | none =>
       simp only [Option.map_none, Sem.run_pure, Result.ok.injEq, and_true] at hb1
       subst hb1
       simp [Instr.sliceBounds, Aq hs, conc, Addr.add]
      | some y =>
       simp only [Option.map_some] at hb1
       simp [Instr.sliceBounds, Aq hs, conc, Addr.add, hb1]
     | some y =>
      simp only at hf
      split at hf
      ·rename_i kd l hl
       obtain ⟨hll, hk⟩ := hf
       refine ⟨_, hk, fun w₁ _ => ?_⟩
       rw [hx]
       have hb1 := hb w₁
       cases hi with
       | none =>
        simp only [Option.map_none, Sem.run_pure, Result.ok.injEq, and_true] at hb1
        subst hb1
        simp [Instr.sliceBounds, Aq hs, conc, ev hl, Aw hll]
        split <;> rfl
       | some z =>
        simp only [Option.map_some] at hb1
        simp [Instr.sliceBounds, Aq hs, conc, ev hl, hb1, Aw hll]
        split <;> rfl
      ·exact hf.elim
    cases hi with
    | none => exact fin n h (fun w₁ => rfl)
    | some y =>
     simp only at h
     split at h
     ·rename_i kd m hm
      obtain ⟨hb, hf⟩ := h
      exact fin m.toNat hf (fun w₁ => by simp only [Option.map_some, ev hm, Aw hb])
     ·exact h.elim
  ·rename_i str hu hxs
   have hx : ∀ w, (execOp a.eval o).run P w = ((Instr.slice t (.string str) (lo.map a.eval) (hi.map a.eval) none).run P w).andThen (fun v w => .ok (.value v) w) := by
    intro w; simp only [execOp, ho, Sem.run_bind, Sem.run_pure, ev hxs, Option.map_none, Instr.sliceAt, Ad hu, Result.andThen_ok]
   have fin : ∀ (hh : Nat), Mi s.env lo str hh (fun v => k (.val v) s w) → (∀ w₁, (match hi.map a.eval with | some v => Instr.sliceBound v str.size .sliceAlen | none => (pure str.size : Sem Nat)).run P w₁ = .ok hh w₁) →
     ∃ e, k e s w ∧ ∀ w₁ : World, Cs o a w₀ w₁ → (execOp a.eval o).run P w₁ = .ok (.value (conc ρ e)) w₁ := by
    intro hh hf hb
    unfold Mi at hf
    cases lo with
    | none =>
     refine ⟨_, hf, fun w₁ _ => ?_⟩
     rw [hx]
     have hb1 := hb w₁
     cases hi with
     | none =>
      simp only [Option.map_none, Sem.run_pure, Result.ok.injEq, and_true] at hb1
      subst hb1
      simp [Instr.slice, Instr.sliceBounds, Ad hu, conc]
     | some y =>
      simp only [Option.map_some] at hb1
      simp [Instr.slice, Instr.sliceBounds, Ad hu, conc, hb1]
    | some y =>
     simp only at hf
     split at hf
     ·rename_i kd l hl
      obtain ⟨hll, hk⟩ := hf
      refine ⟨_, hk, fun w₁ _ => ?_⟩
      rw [hx]
      have hb1 := hb w₁
      cases hi with
      | none =>
       simp only [Option.map_none, Sem.run_pure, Result.ok.injEq, and_true] at hb1
       subst hb1
       simp [Instr.slice, Instr.sliceBounds, Ad hu, conc, ev hl, Aw hll]
      | some z =>
       simp only [Option.map_some] at hb1
       simp [Instr.slice, Instr.sliceBounds, Ad hu, conc, ev hl, hb1, Aw hll]
     ·exact hf.elim
   cases hi with
   | none => exact fin str.size h (fun w₁ => rfl)
   | some y =>
    simp only at h
    split at h
    ·rename_i kd m hm
     obtain ⟨hb, hf⟩ := h
     exact fin m.toNat hf (fun w₁ => by simp only [Option.map_some, ev hm, Aw hb])
    ·exact h.elim
  ·exact h.elim
 case unOp op t x =>
  have notCase : op = .not → ∃ e, k e s w ∧ ∀ w₁ : World, Cs o a w₀ w₁ → (execOp a.eval o).run P w₁ = .ok (.value (conc ρ e)) w₁ := by
   intro hop
   subst hop
   simp only [Al, ho] at h
   split at h
   ·rename_i hx
    exact ⟨_, h, fun w₁ _ => by simp only [execOp, ho, A2 hr.env hx, conc]; rfl⟩
   ·rename_i hx
    exact ⟨_, h, fun w₁ _ => by simp only [execOp, ho, A2 hr.env hx, conc]; rfl⟩
   ·rename_i b hx
    exact ⟨_, h, fun w₁ _ => by simp only [execOp, ho, A2 hr.env hx, conc]; rfl⟩
   ·exact h.elim
  cases op
  case not => exact notCase rfl
  all_goals
   have hs : Cg H o = false := by simpa [As, ho] using hq
   simp only [Al, ho] at h
   exact gen hs h
 case binOp op t x y yt =>
  have hx : ∀ w, (execOp a.eval o).run P w = ((do eqGuard op t x y (a.eval x) (a.eval y); binOp op t (a.eval x) (a.eval y) : Sem Value).run P w).andThen (fun v w => .ok (.value v) w) := by
   intro w; simp only [execOp, ho, Sem.run_bind, Sem.run_pure]
  have hs : Cg H o = false := by
   cases op <;> first | (simp [As, ho] at hq; done) | (simp only [As, ho, Bool.not_eq_true'] at hq; exact hq)
  simp only [Al, ho, hs] at h
  have sh : ∀ (kd : IntKind) (u v : Int), 0 ≤ v → (op = .shl ∨ op = .shr) → ∀ kd' w₁, (do eqGuard op t x y (.int kd u) (.int kd' v); binOp op t (.int kd u) (.int kd' v) : Sem Value).run P w₁ = .ok (.int kd (if op = .shl then kd.wrap (u * 2 ^ (min v.toNat kd.bits)) else u.fdiv (2 ^ (min v.toNat kd.bits)))) w₁ := by
   intro kd u v hv hop kd' w₁
   have hn : ¬ v < 0 := by omega
   rcases hop with rfl | rfl
   ·simp [eqGuard, binOp, Op.shift, hn]
   ·simp [eqGuard, binOp, Op.shift, hn]
  split at h
  ·simp [As, ho] at hq
  ·simp [As, ho] at hq
  ·rename_i kd u kd' v hu hv
   obtain ⟨e, he, hk⟩ := A4 (ρ := ρ) h.2
   exact ⟨e, hk, fun w₁ _ => by rw [hx, ev hu, ev hv, sh kd u v h.1 (.inl rfl), he]; rfl⟩
  ·rename_i kd u kd' v hu hv
   obtain ⟨e, he, hk⟩ := A4 (ρ := ρ) h.2
   exact ⟨e, hk, fun w₁ _ => by rw [hx, ev hu, ev hv, sh kd u v h.1 (.inr rfl), he]; rfl⟩
  ·rename_i p hp hn
   obtain ⟨hg, h⟩ := Ab h
   obtain ⟨e, he, hk⟩ := A4 (ρ := ρ) h
   obtain ⟨el, hu⟩ := Ny hg
   refine ⟨e, hk, fun w₁ _ => ?_⟩
   rw [hx, ev hp, ev hn, he]
   show ((do eqGuard .eql t x y (.pointer p) (.pointer none); pure (.bool ((← Op.equal t (.pointer p) (.pointer none)))) : Sem Value).run P w₁).andThen _ = _
   have hg0 : eqGuard .eql t x y (.pointer p) (.pointer none) = pure () := rfl
   rw [hg0]
   simp only [pure_bind, Sem.run_bind, Fo hu, Result.andThen_ok, Sem.run_pure]
  ·rename_i p hp hn
   obtain ⟨hg, h⟩ := Ab h
   obtain ⟨e, he, hk⟩ := A4 (ρ := ρ) h
   obtain ⟨el, hu⟩ := Ny hg
   refine ⟨e, hk, fun w₁ _ => ?_⟩
   rw [hx, ev hp, ev hn, he]
   show ((do eqGuard .neq t x y (.pointer p) (.pointer none); pure (.bool (!(← Op.equal t (.pointer p) (.pointer none)))) : Sem Value).run P w₁).andThen _ = _
   have hg0 : eqGuard .neq t x y (.pointer p) (.pointer none) = pure () := rfl
   rw [hg0]
   simp only [pure_bind, Sem.run_bind, Fo hu, Result.andThen_ok, Sem.run_pure]
  ·rename_i p _ _ _ _ hp hn
   obtain ⟨hg, h⟩ := Ab h
   obtain ⟨e, he, hk⟩ := A4 (ρ := ρ) h
   obtain ⟨el, hu⟩ := Kl hg
   refine ⟨e, hk, fun w₁ _ => ?_⟩
   rw [hx, ev hp, ev hn, he]
   show ((do eqGuard .eql t x y (.slice p _ _) (.slice none _ _); pure (.bool ((← Op.equal t (.slice p _ _) (.slice none _ _)))) : Sem Value).run P w₁).andThen _ = _
   have hg0 : ∀ u1 u2 u3 u4, eqGuard .eql t x y (.slice p u1 u2) (.slice none u3 u4) = pure () := fun _ _ _ _ => rfl
   rw [hg0]
   simp only [pure_bind, Sem.run_bind, Eh hu, Result.andThen_ok, Sem.run_pure]
  ·rename_i p _ _ _ _ hp hn
   obtain ⟨hg, h⟩ := Ab h
   obtain ⟨e, he, hk⟩ := A4 (ρ := ρ) h
   obtain ⟨el, hu⟩ := Kl hg
   refine ⟨e, hk, fun w₁ _ => ?_⟩
   rw [hx, ev hp, ev hn, he]
   show ((do eqGuard .neq t x y (.slice p _ _) (.slice none _ _); pure (.bool (!(← Op.equal t (.slice p _ _) (.slice none _ _)))) : Sem Value).run P w₁).andThen _ = _
   have hg0 : ∀ u1 u2 u3 u4, eqGuard .neq t x y (.slice p u1 u2) (.slice none u3 u4) = pure () := fun _ _ _ _ => rfl
   rw [hg0]
   simp only [pure_bind, Sem.run_bind, Eh hu, Result.andThen_ok, Sem.run_pure]
  ·exact gen hs h
 case call c =>
  obtain ⟨callee, args, tys⟩ := c
  cases callee with
  | value f => simp [As, ho] at hq
  | invoke r m => simp [As, ho] at hq
  | builtin b =>
   have hs : Cg H o = false := by simpa [As, ho] using hq
   simp only [Al, ho] at h
   exact gen hs h
 all_goals
  have hs : Cg H o = false := by simpa [As, ho] using hq
  simp only [Al, ho] at h
  exact gen hs h
end
end Go.Sx
