/- The reference's printing of numbers. Conditions: none. -/
import Derived.Test.YtbmmaibbiahkkaaGreatDoorProg
import Derived.Test.YtbmmaibbiahkkaaGreatDoorScrW
import Derived.Test.YtbmmaibbiahkkaaGreatDoorScrQ
import Derived.Test.YtbmmaibbiahkkaaGreatDoorSxSi
namespace Go.Proofs.YtbmmaibbiahkkaaGreatDoor
open Go.Sx
set_option maxRecDepth 100000
set_option linter.unusedVariables false
set_option linter.unusedSimpArgs false
abbrev Buf (w : World) (B : Nat) (a : Option Addr) (n c : Nat) (t : L8) := Own w B 5 (Enc.int .u8) a n c (ints t)
theorem Ph {w0 w : World} {a : Option Addr} {n c : Nat} {t s : L8} {k : Value → World → Prop} (h : Buf w w0.heap.size a n c t) (hg : Grew w0 w) (hl : t.length + s.length ≤ 1000000000)
  (hk : ∀ a' n' c' w', Buf w' w0.heap.size a' n' c' (t ++ s) → Grew w0 w' → Upd (Blk a) w w' → k (.slice a' n' c') w') : SemW Tryz.prog (Builtin.append_ #[39, 9] 39 #[.slice a n c, .string (bs s)]) k w := by
 refine Ik uBy uSt iU8 h hg.size (by simp; omega) ?_
 rintro v w' ⟨a', n', c', rfl, ho, hu, hb⟩
 rw [← Ii] at ho
 exact hk _ _ _ _ ho (hg.then_own hu fun b hb => (h.blk hb).1) hu
end Go.Proofs.YtbmmaibbiahkkaaGreatDoor
