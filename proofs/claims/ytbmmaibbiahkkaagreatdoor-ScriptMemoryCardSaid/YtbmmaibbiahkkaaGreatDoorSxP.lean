/- Buckets in plain lists: cells, their bytes, what Encode and Decode answer, Find, Put, Drop. Conditions: none. -/
import Derived.Test.YtbmmaibbiahkkaaGreatDoorSxO
import Derived.Laws.StructEq
import Derived.Laws.BytesArg
namespace Go.Sx
set_option linter.unusedSimpArgs false
set_option linter.unusedVariables false
structure H9 where
 key : Int
 ph : Bool
 pb : Int
 ch : Bool
 cb : Int
 batch : Int
deriving DecidableEq
def H9.vals (x : H9) : List Value := [.int .u64 x.key, .bool x.ph, .int .u64 x.pb, .bool x.ch, .int .u64 x.cb, .int .i64 x.batch]
def Enc.cell : Enc H9 := ⟨6, H9.vals, fun _ => rfl, by decide, fun x v h => by simp [H9.vals] at h; rcases h with rfl | rfl | rfl | rfl | rfl | rfl <;> rfl⟩
structure H9.Fits (x : H9) : Prop where
 k0 : 0 ≤ x.key
 k1 : x.key < u64m
 p0 : 0 ≤ x.pb
 p1 : x.pb < u64m
 c0 : 0 ≤ x.cb
 c1 : x.cb < u64m
 b0 : -9223372036854775808 ≤ x.batch
 b1 : x.batch < 9223372036854775808
abbrev RdS := List Int × Int
section
variable {P : Program}
theorem Pi {t : TypeId} {x y : Operand} {a b : ByteArray} : Am P (eqS .eql t x y (.string a) (.string b)) (.bool (a == b)) := fun w => by
 simp [eqS, eqGuard, binOp, Op.stringOp, beq_toListBytes]
theorem Mz {t : TypeId} {x y : Operand} {a b : ByteArray} : Am P (eqS .neq t x y (.string a) (.string b)) (.bool (!(a == b))) := fun w => by
 simp [eqS, eqGuard, binOp, Op.stringOp, beq_toListBytes]
def strB (l : List Int) : ByteArray := strOfNums l
theorem Ks {src dst e : TypeId} {w : World} {a : Option Addr} {n c : Nat} {l : List Int} {k : Value → World → Prop} (hs : P.underlying src = some (.slice e)) (he : P.underlying e = some (.int .u8)) (hd : P.underlying dst = some .string)
  (hr : Reads w (Enc.int .u8) (a, n, c) l) (hk : k (.string (strB l)) w) : SemW P (convert src dst (.slice a n c)) k w := by
 intro w₀ hw
 have hn : n = l.length := hr.2.1
 refine ⟨_, w₀, w, ?_, hw, Kept.refl _ _, hk⟩
 cases a with
 | none =>
  have : l = [] := by
   have h1 : c = 0 := hr.2.2.1 rfl
   have h2 : n ≤ c := hr.2.2.2
   exact List.eq_nil_of_length_eq_zero (by omega)
  subst this
  exact run_convert_bytes_nil w₀ src e hs he n c dst hd
 | some d =>
  have hf : l.flatMap (Enc.int .u8).f = l.map (Value.int .u8) := by
   clear hr hn hk
   induction l with
   | nil => rfl
   | cons x r ih => rw [List.flatMap_cons, ih]; rfl
  have hl : (loadCells d n).run P w₀ = .ok (l.map (Value.int .u8)).toArray w₀ := by
   have := run_loadCells_list (P := P) w₀ d (l.map (Value.int .u8)) (fun j v hj => by rw [← hf] at hj; exact (hw.cell (Lu hr.1 j v hj)).1)
   simpa [hn] using this
  rw [run_convert_bytes_string w₀ src dst e _ n c hs he hd, run_bytesToString w₀ _ n c l hl, foldl_push_bytes]
  simp [strB, strOfNums, ByteArray.empty, ByteArray.emptyWithCapacity]
  rfl
end
end Go.Sx
