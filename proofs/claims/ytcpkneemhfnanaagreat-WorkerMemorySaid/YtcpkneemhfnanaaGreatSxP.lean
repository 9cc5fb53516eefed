/- '==' of values that hold no pointer: one Bool, reckoned from the type. Bytes as strings. Conditions: none. -/
import Derived.Test.YtcpkneemhfnanaaGreatSxS
import Derived.Laws.StructEq
import Derived.Laws.BytesArg
namespace Go.Sx
set_option linter.unusedSimpArgs false
set_option linter.unusedVariables false
section
variable {P : Program}

def partB (P : Program) (t : TypeId) (xs : Array Value) (off : Nat) : Option Value :=
  match aggB P t with
  | some true => match sizeOf P t with | some n => some (.agg (xs.extract off (off + n))) | none => none
  | some false => xs[off]?
  | none => none
theorem partB_run {t : TypeId} {xs : Array Value} {off : Nat} {v : Value} (h : partB P t xs off = some v) (w : World) : (part t xs off).run P w = .ok v w := by
  unfold partB at h
  split at h
  · rename_i hb
    split at h
    · rename_i n hn
      cases h
      have hs : (Go.sizeOf t).run P w = .ok n w := by
        unfold Go.Sx.sizeOf at hn
        split at hn
        · rename_i i hi; cases hn; simp [Go.sizeOf, typeInfo, hi]
        · cases hn
      simp only [part, Sem.run_bind, run_isAgg' hb, Result.andThen_ok, if_true, hs, Sem.run_pure]
    · cases h
  · rename_i hb
    simp only [part, Sem.run_bind, run_isAgg' hb, Result.andThen_ok, Bool.false_eq_true, if_false, h, Sem.run_pure]
  · cases h

def eqFB (P : Program) (eq : TypeId → Value → Value → Option Bool) (xs ys : Array Value) : List Field → Option Bool
  | [] => some true
  | f :: r =>
    cond (f.name == "_") (eqFB P eq xs ys r)
      (match partB P f.type xs f.offset, partB P f.type ys f.offset with
      | some a, some b => match eq f.type a b, eqFB P eq xs ys r with | some u, some v => some (u && v) | _, _ => none
      | _, _ => none)
def eqVB (P : Program) : Nat → TypeId → Value → Value → Option Bool
  | 0 => fun _ _ _ => none
  | d + 1 => fun t x y =>
    match P.underlying t, x, y with
    | some (.int _), .int k a, .int k' b => cond (k == k') (some (a == b)) none
    | some .bool, .bool a, .bool b => some (a == b)
    | some .string, .string a, .string b => some (a == b)
    | some (.struct fs), .agg xs, .agg ys => cond (P.stoodInHeld t) none (eqFB P (eqVB P d) xs ys fs.toList)
    | _, _, _ => none

theorem eqFB_run {d : Nat} {eq : TypeId → Value → Value → Option Bool} (he : ∀ {t : TypeId} {x y : Value} {b : Bool}, eq t x y = some b → ∀ w, (Op.equalIn d t x y).run P w = .ok b w) {xs ys : Array Value} : ∀ (fs : List Field) {b : Bool}, eqFB P eq xs ys fs = some b → ∀ w, (Op.eqFields d xs ys fs).run P w = .ok b w
  | [], _, h, _ => by rw [eqFB] at h; cases h; simp [Op.eqFields]
  | f :: r, b, h, w => by
    rw [eqFB] at h
    rw [Op.eqFields]
    cases hn : f.name == "_" with
    | true =>
      rw [hn] at h
      have hn' : ¬ (f.name ≠ "_") := by simpa using hn
      rw [if_neg hn']
      exact eqFB_run he r h w
    | false =>
      rw [hn] at h
      have hn' : f.name ≠ "_" := by simpa using hn
      simp only [cond_false] at h
      split at h
      · rename_i a b' ha hb
        split at h
        · rename_i u v hu hv
          cases h
          simp only [if_pos hn', Sem.run_bind, partB_run ha, partB_run hb, he hu, Result.andThen_ok]
          cases u
          · simp
          · simpa using eqFB_run he r hv w
        · cases h
      · cases h

theorem eqVB_run : ∀ (d : Nat) {t : TypeId} {x y : Value} {b : Bool}, eqVB P d t x y = some b → ∀ w, (Op.equalIn d t x y).run P w = .ok b w
  | 0, _, _, _, _, h, _ => by simp [eqVB] at h
  | d + 1, t, x, y, b, h, w => by
    simp only [eqVB] at h
    split at h
    · rename_i k0 k a k' b' hu
      cases hk : k == k' with
      | false => rw [hk] at h; cases h
      | true =>
        rw [hk] at h; cases h
        have : k = k' := by revert hk; cases k <;> cases k' <;> intro hk <;> first | rfl | cases hk
        subst this
        exact run_equalIn_int w d t k k0 a b' hu
    · rename_i a b' hu
      cases h
      exact run_equalIn_bool w d t a b' hu
    · rename_i a b' hu
      cases h
      simp [Op.equalIn, run_underlying hu]
    · rename_i fs xs ys hu
      cases hs : P.stoodInHeld t with
      | true => rw [hs] at h; cases h
      | false =>
        rw [hs] at h
        have hf : P.fieldsOf t = fs := by simp [Program.fieldsOf, hu]
        rw [run_equalIn_struct (P := P) w d t xs ys (by rw [hf]; exact hu) hs, hf]
        exact eqFB_run (eqVB_run d) fs.toList h w
    · cases h

theorem eqS_neq {t : TypeId} {x y : Operand} {xs ys : Array Value} {b : Bool} (hg : P.eqGuardType P.depth t = false) (h : eqVB P 10000 t (.agg xs) (.agg ys) = some b) : PureTo P (eqS .neq t x y (.agg xs) (.agg ys)) (.bool (!b)) := fun w => by
  simp only [eqS, Sem.run_bind, run_eqGuard_agg w .neq t x y xs ys hg, Result.andThen_ok, run_neq_struct, eqVB_run 10000 h]
/-! ### bytes as a string -/
end
end Go.Sx
