/- '==' of values that hold no pointer: one Bool, reckoned from the type. Bytes as strings. Conditions: none. -/
import Derived.Test.YtoljpkdokpinhaaSxS
import Derived.Laws.StructEq
import Derived.Laws.BytesArg
namespace Go.Sx
set_option linter.unusedSimpArgs false
set_option linter.unusedVariables false
section
variable {P : Program}

def partB (P : Program) (t : TypeId) (xs : Array Value) (off : Nat) : Option Value :=
  match aggB P t with
  | some true => match sizeOf P t with | some n => some (.agg (xs.extract off (off + n))) | none => none
  | some false => xs[off]?
  | none => none
theorem partB_run {t : TypeId} {xs : Array Value} {off : Nat} {v : Value} (h : partB P t xs off = some v) (w : World) : (part t xs off).run P w = .ok v w := by
  unfold partB at h
  split at h
  · rename_i hb
    split at h
    · rename_i n hn
      cases h
      have hs : (Go.sizeOf t).run P w = .ok n w := by
        unfold Go.Sx.sizeOf at hn
        split at hn
        · rename_i i hi; cases hn; simp [Go.sizeOf, typeInfo, hi]
        · cases hn
      simp only [part, Sem.run_bind, run_isAgg' hb, Result.andThen_ok, if_true, hs, Sem.run_pure]
    · cases h
  · rename_i hb
    simp only [part, Sem.run_bind, run_isAgg' hb, Result.andThen_ok, Bool.false_eq_true, if_false, h, Sem.run_pure]
  · cases h

def eqFB (P : Program) (eq : TypeId → Value → Value → Option Bool) (xs ys : Array Value) : List Field → Option Bool
  | [] => some true
  | f :: r =>
    cond (f.name == "_") (eqFB P eq xs ys r)
      (match partB P f.type xs f.offset, partB P f.type ys f.offset with
      | some a, some b => match eq f.type a b, eqFB P eq xs ys r with | some u, some v => some (u && v) | _, _ => none
      | _, _ => none)
def eqVB (P : Program) : Nat → TypeId → Value → Value → Option Bool
  | 0 => fun _ _ _ => none
  | d + 1 => fun t x y =>
    match P.underlying t, x, y with
    | some (.int _), .int k a, .int k' b => cond (k == k') (some (a == b)) none
    | some .bool, .bool a, .bool b => some (a == b)
    | some .string, .string a, .string b => some (a == b)
    | some (.struct fs), .agg xs, .agg ys => cond (P.stoodInHeld t) none (eqFB P (eqVB P d) xs ys fs.toList)
    | _, _, _ => none

theorem eqFB_run {d : Nat} {eq : TypeId → Value → Value → Option Bool} (he : ∀ {t : TypeId} {x y : Value} {b : Bool}, eq t x y = some b → ∀ w, (Op.equalIn d t x y).run P w = .ok b w) {xs ys : Array Value} : ∀ (fs : List Field) {b : Bool}, eqFB P eq xs ys fs = some b → ∀ w, (Op.eqFields d xs ys fs).run P w = .ok b w
  | [], _, h, _ => by rw [eqFB] at h; cases h; simp [Op.eqFields]
  | f :: r, b, h, w => by
    rw [eqFB] at h
    rw [Op.eqFields]
    cases hn : f.name == "_" with
    | true =>
      rw [hn] at h
      have hn' : ¬ (f.name ≠ "_") := by simpa using hn
      rw [if_neg hn']
      exact eqFB_run he r h w
    | false =>
      rw [hn] at h
      have hn' : f.name ≠ "_" := by simpa using hn
      simp only [cond_false] at h
      split at h
      · rename_i a b' ha hb
        split at h
        · rename_i u v hu hv
          cases h
          simp only [if_pos hn', Sem.run_bind, partB_run ha, partB_run hb, he hu, Result.andThen_ok]
          cases u
          · simp
          · simpa using eqFB_run he r hv w
        · cases h
      · cases h

theorem eqVB_run : ∀ (d : Nat) {t : TypeId} {x y : Value} {b : Bool}, eqVB P d t x y = some b → ∀ w, (Op.equalIn d t x y).run P w = .ok b w
  | 0, _, _, _, _, h, _ => by simp [eqVB] at h
  | d + 1, t, x, y, b, h, w => by
    simp only [eqVB] at h
    split at h
    · rename_i k0 k a k' b' hu
      cases hk : k == k' with
      | false => rw [hk] at h; cases h
      | true =>
        rw [hk] at h; cases h
        have : k = k' := by revert hk; cases k <;> cases k' <;> intro hk <;> first | rfl | cases hk
        subst this
        exact run_equalIn_int w d t k k0 a b' hu
    · rename_i a b' hu
      cases h
      exact run_equalIn_bool w d t a b' hu
    · rename_i a b' hu
      cases h
      simp [Op.equalIn, run_underlying hu]
    · rename_i fs xs ys hu
      cases hs : P.stoodInHeld t with
      | true => rw [hs] at h; cases h
      | false =>
        rw [hs] at h
        have hf : P.fieldsOf t = fs := by simp [Program.fieldsOf, hu]
        rw [run_equalIn_struct (P := P) w d t xs ys (by rw [hf]; exact hu) hs, hf]
        exact eqFB_run (eqVB_run d) fs.toList h w
    · cases h

/-- '==' and '!=' of two structs -/
theorem eqS_eql {t : TypeId} {x y : Operand} {xs ys : Array Value} {b : Bool} (hg : P.eqGuardType P.depth t = false) (h : eqVB P 10000 t (.agg xs) (.agg ys) = some b) : PureTo P (eqS .eql t x y (.agg xs) (.agg ys)) (.bool b) := fun w => by
  simp only [eqS, Sem.run_bind, run_eqGuard_agg w .eql t x y xs ys hg, Result.andThen_ok, run_eql_struct, eqVB_run 10000 h]
theorem eqS_neq {t : TypeId} {x y : Operand} {xs ys : Array Value} {b : Bool} (hg : P.eqGuardType P.depth t = false) (h : eqVB P 10000 t (.agg xs) (.agg ys) = some b) : PureTo P (eqS .neq t x y (.agg xs) (.agg ys)) (.bool (!b)) := fun w => by
  simp only [eqS, Sem.run_bind, run_eqGuard_agg w .neq t x y xs ys hg, Result.andThen_ok, run_neq_struct, eqVB_run 10000 h]
/-- '==' and '!=' of two strings -/
theorem eqS_str {t : TypeId} {x y : Operand} {a b : ByteArray} : PureTo P (eqS .eql t x y (.string a) (.string b)) (.bool (a == b)) := fun w => by
  simp [eqS, eqGuard, binOp, Op.stringOp, beq_toListBytes]
theorem eqS_strNe {t : TypeId} {x y : Operand} {a b : ByteArray} : PureTo P (eqS .neq t x y (.string a) (.string b)) (.bool (!(a == b))) := fun w => by
  simp [eqS, eqGuard, binOp, Op.stringOp, beq_toListBytes]

/-! ### bytes as a string -/
/-- bytes as a string -/
def strB (l : List Int) : ByteArray := strOfNums l
theorem conv_str {src dst e : TypeId} {w : World} {a : Option Addr} {n c : Nat} {l : List Int} {k : Value → World → Prop} (hs : P.underlying src = some (.slice e)) (he : P.underlying e = some (.int .u8)) (hd : P.underlying dst = some .string)
    (hr : Reads w (Enc.int .u8) (a, n, c) l) (hk : k (.string (strB l)) w) : SemW P (convert src dst (.slice a n c)) k w := by
  intro w₀ hw
  have hn : n = l.length := hr.2.1
  refine ⟨_, w₀, w, ?_, hw, Kept.refl _ _, hk⟩
  cases a with
  | none =>
    have : l = [] := by
      have h1 : c = 0 := hr.2.2.1 rfl
      have h2 : n ≤ c := hr.2.2.2
      exact List.eq_nil_of_length_eq_zero (by omega)
    subst this
    exact run_convert_bytes_nil w₀ src e hs he n c dst hd
  | some d =>
    have hf : l.flatMap (Enc.int .u8).f = l.map (Value.int .u8) := by
      clear hr hn hk
      induction l with
      | nil => rfl
      | cons x r ih => rw [List.flatMap_cons, ih]; rfl
    have hl : (loadCells d n).run P w₀ = .ok (l.map (Value.int .u8)).toArray w₀ := by
      have := run_loadCells_list (P := P) w₀ d (l.map (Value.int .u8)) (fun j v hj => by rw [← hf] at hj; exact (hw.cell (flat_cells hr.1 j v hj)).1)
      simpa [hn] using this
    rw [run_convert_bytes_string w₀ src dst e _ n c hs he hd, run_bytesToString w₀ _ n c l hl, foldl_push_bytes]
    simp [strB, strOfNums, ByteArray.empty, ByteArray.emptyWithCapacity]
    rfl
/-- a slice of bytes turned to its own type: it is marked, and reads as it did -/
theorem conv_bytes {t e e' : TypeId} {g n c : Nat} {cs : List Value} {w : World} {k : Value → World → Prop} (ht : P.underlying t = some (.slice e)) (he : P.underlying e = some (.int .u8)) (h : Row w g e' cs)
    (hk : ∀ w', Upd (fun b => b = g) w w' → (∀ (o : Nat) v, cs[o]? = some v → w'.cell? ⟨g, o, none⟩ = some v) → k (.slice (some ⟨g, 0, none⟩) n c) w') : SemW P (convert t t (.slice (some ⟨g, 0, none⟩) n c)) k w := by
  refine SemW.of_run (some g) (fun b hb => by cases hb; exact h.seen) fun w₀ hw => ?_
  have h0 : Row w₀ g e' cs := hw.at h (by simp [hole])
  have h0' : w₀.heap[g]? = some (.cells cs.toArray e' (0, 0)) := h0
  have hsh : w₀.shape? g = some (e', cs.length) := by simp [World.shape?, h0']
  have hg' : (w₀.freeze ⟨g, cs.length, none⟩ 1).heap[g]? = some (.cells cs.toArray e' (cs.length, cs.length + 1)) := by
    unfold World.freeze
    rw [if_neg (by decide)]
    simp only [Array.getElem?_modify, if_true, h0']
    rfl
  have hoth : ∀ b : Nat, b ≠ g → (w₀.freeze ⟨g, cs.length, none⟩ 1).heap[b]? = w₀.heap[b]? := by
    intro b hb
    unfold World.freeze
    rw [if_neg (by decide)]
    simp only [Array.getElem?_modify]
    rw [if_neg (fun e => hb e.symm)]
  have hsz : (w₀.freeze ⟨g, cs.length, none⟩ 1).heap.size = w₀.heap.size := by
    unfold World.freeze
    rw [if_neg (by decide)]
    simp
  have hothers : (w₀.freeze ⟨g, cs.length, none⟩ 1).os = w₀.os ∧ (w₀.freeze ⟨g, cs.length, none⟩ 1).tape = w₀.tape ∧ (w₀.freeze ⟨g, cs.length, none⟩ 1).output = w₀.output := by
    unfold World.freeze
    rw [if_neg (by decide)]
    exact ⟨rfl, rfl, rfl⟩
  refine ⟨_, w₀.freeze ⟨g, cs.length, none⟩ 1, ?_, ⟨hothers.1, hothers.2.1, hothers.2.2, by omega, fun b hb hne => hoth b (fun e => hne (by rw [e]))⟩, fun hgr => hk _ ⟨hgr.os, hgr.tape, hgr.output, hgr.size, fun b hb hne => hgr.block b hb (fun e => hne (by cases e; rfl))⟩ ?_⟩
  · simp [convert, run_underlying ht, run_underlying he, markStringish, hsh]
  · intro o v hv
    have : (remask w (w₀.freeze ⟨g, cs.length, none⟩ 1)).heap[g]? = some (.cells cs.toArray e' (cs.length, cs.length + 1)) := by rw [remask_block h.seen, hg']
    simp only [World.cell?, this]
    simpa using hv
theorem strB_inj {a b : List Int} (ha : Bytes a) (hb : Bytes b) : (strB a == strB b) = decide (a = b) := by
  rw [beq_toListBytes]
  have h1 : ∀ l : List Int, (strB l).toList = l.map fun n => UInt8.ofNat n.toNat := fun l => by rw [ByteArray.toList_eq]; rfl
  rw [h1, h1]
  have key : (a.map fun n => UInt8.ofNat n.toNat) = (b.map fun n => UInt8.ofNat n.toNat) ↔ a = b := by
    constructor
    · intro h
      induction a generalizing b with
      | nil => cases b <;> simp at h ⊢
      | cons x r ih =>
        cases b with
        | nil => simp at h
        | cons y t =>
          simp only [List.map_cons, List.cons.injEq] at h
          have hx := ha x (by simp)
          have hy := hb y (by simp)
          have e1 := congrArg UInt8.toNat h.1
          simp only [UInt8.toNat_ofNat'] at e1
          rw [show x = y by omega, ih (fun c hc => ha c (by simp [hc])) (fun c hc => hb c (by simp [hc])) h.2]
    · rintro rfl; rfl
  by_cases h : a = b
  · simp [h]
  · have : ¬ (a.map fun n => UInt8.ofNat n.toNat) = (b.map fun n => UInt8.ofNat n.toNat) := fun e => h (key.1 e)
    simp [h, this]
end
end Go.Sx
