/- Buckets in plain lists: cells, their bytes, what Encode and Decode answer, Find, Put, Drop. Conditions: none. -/
import Derived.Test.YtcpkneemhfnanaaGreatSxO
namespace Go.Sx
set_option linter.unusedSimpArgs false
set_option linter.unusedVariables false

structure CellV where
  key : Int
  ph : Bool
  pb : Int
  ch : Bool
  cb : Int
  batch : Int
deriving DecidableEq

def CellV.vals (x : CellV) : List Value := [.int .u64 x.key, .bool x.ph, .int .u64 x.pb, .bool x.ch, .int .u64 x.cb, .int .i64 x.batch]
def Enc.cell : Enc CellV := ⟨6, CellV.vals, fun _ => rfl, by decide, fun x v h => by simp [CellV.vals] at h; rcases h with rfl | rfl | rfl | rfl | rfl | rfl <;> rfl⟩
/-- a cell that fits its type -/
structure CellV.Fits (x : CellV) : Prop where
  k0 : 0 ≤ x.key
  k1 : x.key < u64m
  p0 : 0 ≤ x.pb
  p1 : x.pb < u64m
  c0 : 0 ≤ x.cb
  c1 : x.cb < u64m
  b0 : -9223372036854775808 ≤ x.batch
  b1 : x.batch < 9223372036854775808
def Cells (l : List CellV) : Prop := ∀ x ∈ l, x.Fits
theorem Cells.get {l : List CellV} (h : Cells l) {k : Nat} {x : CellV} (hx : l[k]? = some x) : x.Fits := h x (List.mem_of_getElem? hx)

/-! ### Decode -/
abbrev RdS := List Int × Int
def failS (e : Int) (s : RdS) : RdS := if s.2 = 0 then (s.1, e) else s
/-- what is left is an end of what was -/
def EndsR (s s' : RdS) : Prop := ∃ k, s'.1 = s.1.drop k
theorem EndsR.refl (s : RdS) : EndsR s s := ⟨0, rfl⟩
theorem EndsR.trans {a b c : RdS} (h : EndsR a b) (k : EndsR b c) : EndsR a c := by obtain ⟨i, hi⟩ := h; obtain ⟨j, hj⟩ := k; exact ⟨i + j, by rw [hj, hi, List.drop_drop]⟩
theorem EndsR.bytes {s s' : RdS} (h : EndsR s s') (hb : Bytes s.1) : Bytes s'.1 := by obtain ⟨k, hk⟩ := h; rw [hk]; exact hb.drop k
theorem EndsR.len {s s' : RdS} (h : EndsR s s') : s'.1.length ≤ s.1.length := by obtain ⟨k, hk⟩ := h; rw [hk]; simp
/-! ### Find, Put, Drop -/
/-! ### a cell, step by step; an error stays -/
theorem failS_err {s : RdS} (e : Int) (h : s.2 ≠ 0) : failS e s = s := by rw [failS, if_neg h]
end Go.Sx
