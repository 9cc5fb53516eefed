/- The reference's reading of words. Conditions: none. -/
import Derived.Test.YtbmmaibbiahkkaaGreatDoorProg
import Derived.Test.YtbmmaibbiahkkaaGreatDoorScrF
import Derived.Test.YtbmmaibbiahkkaaGreatDoorScrG
import Derived.Test.YtbmmaibbiahkkaaGreatDoorSxSh
namespace Go.Proofs.YtbmmaibbiahkkaaGreatDoor
open Go.Sx
set_option maxRecDepth 100000
set_option linter.unusedVariables false
set_option linter.unusedSimpArgs false
theorem C7 {j : Nat} (h : j < 9223372036854775807) : IntKind.i64.wrap ((j : Int) + 1) = ((j + 1 : Nat) : Int) := by rw [IntKind.wrap_i64]; omega
@[reducible] def Qi (p : ScrP) : Value := .agg #[.int .i64 p.n0, .int .i64 p.n1, .int .i64 p.n2, .slice none 0 0, .int .i64 p.n3, .int .i64 p.n4, .int .i64 p.n5, .int .i64 p.n6]
def Mv (B : Nat) : Except (Int × Nat) (ScrP × List Af) → Value → World → Prop
 | .error (e, n), v, _ => v = .tuple #[Qi ⟨0, 0, 0, 0, 0, 0, 0, []⟩, .slice none 0 0, .int .i64 (n : Int), .int .i64 e]
 | .ok (p, steps), v, w' => ∃ o s : Sl3, v = .tuple #[.agg #[.int .i64 p.n0, .int .i64 p.n1, .int .i64 p.n2, .slice o.1 o.2.1 o.2.2, .int .i64 p.n3, .int .i64 p.n4, .int .i64 p.n5, .int .i64 p.n6], .slice s.1 s.2.1 s.2.2, .int .i64 0, .int .i64 0] ∧
   Own w' B 49 Enc.op3 o.1 o.2.1 o.2.2 p.ops ∧ Own w' B 46 Enc.stepE s.1 s.2.1 s.2.2 steps
theorem Gp {j : Nat} {st : ScrS} {l : L8} {L : List L8} (h : L[j]? = some l) : Ap j st (L.drop j) = if Dh l then Ap (j + 1) st (L.drop (j + 1)) else match Cj st l with | .error e => .error (e, j + 1) | .ok st' => Ap (j + 1) st' (L.drop (j + 1)) := by
 obtain ⟨hl, e⟩ := List.getElem?_eq_some_iff.1 h
 rw [List.drop_eq_getElem_cons hl, e]; rfl
end Go.Proofs.YtbmmaibbiahkkaaGreatDoor
