/- The reference's printing of numbers. Conditions: none. -/
import Derived.Test.YtbmmaibbiahkkaaGreatDoorProg
import Derived.Test.YtbmmaibbiahkkaaGreatDoorScrW
import Derived.Test.YtbmmaibbiahkkaaGreatDoorScrQ
namespace Go.Proofs.YtbmmaibbiahkkaaGreatDoor
open Go.Sx
set_option maxRecDepth 100000
set_option linter.unusedVariables false
set_option linter.unusedSimpArgs false
abbrev Buf (w : World) (B : Nat) (a : Option Addr) (n c : Nat) (t : L8) := Own w B 5 (Enc.int .u8) a n c (ints t)
theorem Ox {w0 w : World} {a : Option Addr} {n c : Nat} {t s : L8} {k : Value → World → Prop} (h : Buf w w0.heap.size a n c t) (hg : Grew w0 w) (hl : t.length + s.length ≤ 1000000000)
  (hk : ∀ a' n' c' w', Buf w' w0.heap.size a' n' c' (t ++ s) → Grew w0 w' → Upd (Blk a) w w' → k (.slice a' n' c') w') : SemW Tryz.prog (Builtin.append_ #[39, 9] 39 #[.slice a n c, .string (bs s)]) k w := by
 refine H5 uBy uSt iU8 h hg.size (by simp; omega) ?_
 rintro v w' ⟨a', n', c', rfl, ho, hu, hb⟩
 rw [← Kc] at ho
 exact hk _ _ _ _ ho (hg.then_own hu fun b hb => (h.blk hb).1) hu
theorem N9 {w0 w w1 : World} {a : Option Addr} {n c b : Nat} {t : L8} {ch : UInt8} {i : Int} {k : Value → World → Prop} (h : Buf w w0.heap.size a n c t) (hal : Av w w1 b (.cells #[.int .u8 i] 5)) (hi : i = (ch.toNat : Int)) (hg : Grew w0 w) (hl : t.length + 1 ≤ 1000000000)
  (hk : ∀ a' n' c' w', Buf w' w0.heap.size a' n' c' (t ++ [ch]) → Grew w0 w' → Upd (Blk a) w w' → k (.slice a' n' c') w') : SemW Tryz.prog (Builtin.append_ #[39, 39] 39 #[.slice a n c, .slice (some ⟨b, 0, none⟩) 1 1]) k w1 := by
 subst hi
 refine D2 (l2 := [(ch.toNat : Int)]) elBy h hal rfl rfl hg.size (by simp [maxLen]; omega) (by simp; omega) ?_
 rintro v w' ⟨a', n', c', rfl, ho, hu, hb⟩
 have e : ints t ++ [(ch.toNat : Int)] = ints (t ++ [ch]) := by simp [ints]
 rw [e] at ho
 exact hk _ _ _ _ ho (hg.then_own hu fun b hb => (h.blk hb).1) hu
end Go.Proofs.YtbmmaibbiahkkaaGreatDoor
