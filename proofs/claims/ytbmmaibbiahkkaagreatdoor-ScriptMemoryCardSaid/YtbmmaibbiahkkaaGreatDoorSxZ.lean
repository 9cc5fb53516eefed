/- Maps keyed by numbers, as lists of keys and things. Conditions: none. -/
import Derived.Test.YtbmmaibbiahkkaaGreatDoorSxX
import Derived.MapKept
import Derived.Carry
import Derived.WideKeyElems
import Derived.Test.YtbmmaibbiahkkaaGreatDoorSxP
import Derived.Test.YtbmmaibbiahkkaaGreatDoorSxO
import Derived.Sort.AssemblyPlain
import Derived.Maps.Range
import Derived.RangeFuncGives
import Derived.RangeFuncRecord
import Derived.Maps.AppendAt
import Derived.Sort.MapsRangeIn
import Derived.OwnWalkIn
import Derived.TacticsInMore
import Derived.RegionIn
import Derived.LoopNIn
import Derived.LoopIn
import Derived.WalkKit
namespace Go.Sx
set_option linter.unusedSimpArgs false
open Go.MapKept
set_option linter.unusedVariables false
section
variable {P : Program} {α : Type}
end
end Go.Sx
namespace Go.Sx
set_option linter.unusedSimpArgs false
set_option linter.unusedVariables false
section
variable {α β : Type}
end
end Go.Sx
namespace Go.Sx
set_option linter.unusedSimpArgs false
set_option linter.unusedVariables false
section
variable {P : Program}
theorem Ia (w : World) : ∀ T : List Addr, Bb w w T
 | [] => trivial
 | _ :: r => ⟨rfl, Ia w r⟩
open Go.Sort
end
end Go.Sx
namespace Go.Sx
set_option linter.unusedSimpArgs false
set_option linter.unusedVariables false
section
variable {α : Type}
variable {S : RdS → α × RdS} {pr : α → List Int} {ok : α → Prop}
end
structure P1 where
 batch : Int
 attempt : Int
 keys : List Int
def Qa (l : List Int) : Prop := ∀ x ∈ l, 0 ≤ x ∧ x < u64m
structure P1.Fits (m : P1) : Prop where
 b0 : -9223372036854775808 ≤ m.batch
 b1 : m.batch < 9223372036854775808
 a0 : -9223372036854775808 ≤ m.attempt
 a1 : m.attempt < 9223372036854775808
 ks : Qa m.keys
end Go.Sx
namespace Go.Sx
set_option linter.unusedSimpArgs false
open Go.MapKept Go.RowKit
open Go.WideElems (Fit rd rg pl rd_key rd_val rg_of)
open Go.Maps (Keyed)
set_option linter.unusedVariables false
section
variable {P : Program} {α : Type}
theorem Aa.of_calls {f : FuncId} {args : List Value} {w : World} {R : Ending → World → Prop} (hE : Enters P f)
  (h : ∀ w₀, Ae w w₀ → Calls P f args.toArray w₀ fun e w₀' => Below w₀.heap.size w₀ w₀' ∧ (Grew w (A6 w w₀') → R e (A6 w w₀'))) : Aa P f args w R := by
 refine .mk (.inl ⟨hE, fun w₀ hw => (h w₀ hw).mono ?_⟩)
 rintro e w₀' ⟨hb, hr⟩
 have hs : w.heap.size ≤ w₀'.heap.size := by rw [hw.size]; exact hb.size
 refine ⟨A6 w w₀', Cv hs, Dd hs (fun b hh => hb.block b (by rw [← hw.size]; exact lt_of_heap hh)), hr ⟨?_, ?_, ?_, by simp [A6]; exact hs, fun b hlt => ?_⟩⟩
 ·show w₀'.os = w.os; rw [hb.os, hw.os]
 ·show w₀'.tape = w.tape; rw [hb.tape, hw.tape]
 ·show w₀'.output = w.output; rw [hb.output, hw.output]
 ·by_cases hh : w.heap[b]? = some hole
  ·rw [Bi hh hs, hh]
  ·rw [A0 hh, hb.block b (by rw [← hw.size]; exact hlt)]
   rcases hw.block b with e | e
   ·exact e.symm
   ·exact absurd e hh
theorem Kv (q : IntKind) : ∀ ss : List Int, ss.flatMap (Enc.int q).f = ss.map (Value.int q)
 | [] => rfl
 | x :: ss => by rw [List.flatMap_cons, Kv q ss]; rfl
theorem Bg {W : World} {B : Nat} {v : Value} {t : TypeId} (h : W.heap[B]? = some (.cells #[v] t (0, 0))) : W.cell? ⟨B, 0, none⟩ = some v ∧ W.frozen? ⟨B, 0, none⟩ = false := by
 constructor <;> simp [World.cell?, World.frozen?, h]
end
end Go.Sx
