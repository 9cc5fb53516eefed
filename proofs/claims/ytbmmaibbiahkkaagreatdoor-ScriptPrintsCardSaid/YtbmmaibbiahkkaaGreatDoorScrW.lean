/- The reference's lines read. Conditions: none. -/
import Derived.Test.YtbmmaibbiahkkaaGreatDoorProg
import Derived.Test.YtbmmaibbiahkkaaGreatDoorScrU
import Derived.Test.YtbmmaibbiahkkaaGreatDoorScrG
import Derived.Test.YtbmmaibbiahkkaaGreatDoorSxSh
namespace Go.Proofs.YtbmmaibbiahkkaaGreatDoor
open Go.Sx
set_option maxRecDepth 100000
set_option linter.unusedVariables false
set_option linter.unusedSimpArgs false
@[reducible] def Pq (p : ScrP) : Value := .agg #[.int .i64 p.n0, .int .i64 p.n1, .int .i64 p.n2, .slice none 0 0, .int .i64 p.n3, .int .i64 p.n4, .int .i64 p.n5, .int .i64 p.n6]
def L5 (B : Nat) : Except (Int × Nat) (ScrP × List Ai) → Value → World → Prop
 | .error (e, n), v, _ => v = .tuple #[Pq ⟨0, 0, 0, 0, 0, 0, 0, []⟩, .slice none 0 0, .int .i64 (n : Int), .int .i64 e]
 | .ok (p, steps), v, w' => ∃ o s : Sl3, v = .tuple #[.agg #[.int .i64 p.n0, .int .i64 p.n1, .int .i64 p.n2, .slice o.1 o.2.1 o.2.2, .int .i64 p.n3, .int .i64 p.n4, .int .i64 p.n5, .int .i64 p.n6], .slice s.1 s.2.1 s.2.2, .int .i64 0, .int .i64 0] ∧
   Own w' B 49 Enc.op3 o.1 o.2.1 o.2.2 p.ops ∧ Own w' B 46 Enc.stepE s.1 s.2.1 s.2.2 steps
theorem Gh {j : Nat} {st : ScrS} {l : L8} {L : List L8} (h : L[j]? = some l) : Bj j st (L.drop j) = if I2 l then Bj (j + 1) st (L.drop (j + 1)) else match Ex st l with | .error e => .error (e, j + 1) | .ok st' => Bj (j + 1) st' (L.drop (j + 1)) := by
 obtain ⟨hl, e⟩ := List.getElem?_eq_some_iff.1 h
 rw [List.drop_eq_getElem_cons hl, e]; rfl
end Go.Proofs.YtbmmaibbiahkkaaGreatDoor
