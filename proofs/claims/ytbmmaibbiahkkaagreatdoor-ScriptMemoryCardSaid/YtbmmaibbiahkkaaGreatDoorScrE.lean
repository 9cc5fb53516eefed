/- Texts trimmed, split and repeated; numbers, keys, floats of a script. Conditions: none. -/
import Derived.Test.YtbmmaibbiahkkaaGreatDoorProg
import Derived.Test.YtbmmaibbiahkkaaGreatDoorScrD
import Derived.Test.YtbmmaibbiahkkaaGreatDoorSxSf
import Derived.Shelf.Strings.SlTrimAscii
namespace Go.Proofs.YtbmmaibbiahkkaaGreatDoor
open Go.Sx
set_option maxRecDepth 100000
set_option linter.unusedVariables false
set_option linter.unusedSimpArgs false
open Go.RowKit
def sx41 (s sep : ByteArray) (R : Ending → World → Prop) (w : World) : Prop :=
 Aa Tryz.prog 61 [.string s, .string sep, .int .i64 0, .int .i64 (-1)] w (RetR R fun u2 w1 => ∃ a3 l3 c3, u2 = .slice a3 l3 c3 ∧ R (.returned (.slice a3 l3 c3)) w1)
theorem sx41.ok {s sep : ByteArray} {R : Ending → World → Prop} {w : World} (h : sx41 s sep R w) : Aa Tryz.prog 41 [.string s, .string sep] w R :=
 okOf {} mix Tryz.func41 (by kernel_rfl) (by kernel_rfl) (by kernel_rfl) h
theorem Ps {s : L8} {w : World} (hs : s.length ≤ 9223372036854775807) : Aa Tryz.prog 63 [.string (bs s), .string (bs hexD)] w (Rets fun v w' => v = .string (bs (Lib.trimS s hexD)) ∧ Grew w w') :=
 Aa.of_val (entI Tryz.func63 (by kernel_rfl) (by kernel_rfl)) fun w₀ hw =>
  (Any.strings_Trim_laid Tryz.lays160 (by kernel_rfl) (bs s) (bs hexD) w₀ (by rw [A1]; exact hs) (by rw [A1]; decide) (by
   rw [A8]; exact ascii_of_all (by decide +kernel))).mono fun e w' ⟨he, hw'⟩ => ⟨by rw [he, A8, A8]; rfl, hw'⟩
theorem La {s : L8} {c : UInt8} {w : World} (hs : s.length < 4294967281) : Aa Tryz.prog 61 [.string (bs s), .string (bs [c]), .int .i64 0, .int .i64 (-1)] w
  (Rets fun v w' => ∃ b, v = .slice (some ⟨b, 0, none⟩) (Ag c s).length (Ag c s).length ∧ Ar w w' b (.cells (((Ag c s).map bs).map Value.string).toArray 9)) :=
 Aa.of_alloc (entI Tryz.func61 (by kernel_rfl) (by kernel_rfl)) fun w₀ hw => by
  have hI : ∀ (x : ByteArray) (d : Array Value), x.size ≤ (bs s).size → Calls Tryz.prog 60 #[.string x, .string (bs [c])] (w₀.alloc (.cells d 9)) fun e w' => e = .returned (.int .i64 (Lib.indexB x (bs [c]))) ∧ w' = w₀.alloc (.cells d 9) := fun x d _ => by
   obtain ⟨l, rfl⟩ := Qn x
   have := Tryz.strings_Index_one (bs l) c (w₀.alloc (.cells d 9))
   rw [A8] at this
   rw [Ob]; exact this
  have hC : Calls Tryz.prog 83 #[.string (bs s), .string (bs [c])] w₀ fun e w' => e = .returned (.int .i64 (Lib.countB (bs s) (bs [c]))) ∧ w' = w₀ := by
   have := Tryz.strings_Count_one (bs s) c w₀
   rw [A8] at this
   rw [Ly]; exact this
  have hle : s.count c ≤ s.length := List.count_le_length
  have h := Any.strings_genSplit_core Tryz.lays221 (by kernel_rfl) (bs s) (bs [c]) 0 (-1) (s.count c + 1) w₀ (by rw [A1]; exact hs) (by rw [A1]; simp) (Nat.zero_le _) hI hC (by decide) (by decide) (by rw [if_pos (by decide), Ly, A1]; omega)
  rw [Nat.add_sub_cancel, Jj c _ s rfl, List.length_map, Ce] at h
  have e2 : Lib.cellsOf ((Ag c s).map bs) (s.count c + 1) = (((Ag c s).map bs).map Value.string).toArray := by
   rw [← Ce]
   have := Lib.cellsOf_full ((Ag c s).map bs)
   rw [List.length_map] at this; exact this
  rw [e2] at h
  rw [Ce]
  exact h
theorem Oj {s : L8} {c : UInt8} {w : World} (hs : s.length < 4294967281) : Aa Tryz.prog 41 [.string (bs s), .string (bs [c])] w
  (Rets fun v w' => ∃ a, v = .slice (some a) (Ag c s).length (Ag c s).length ∧ Own w' w.heap.size 9 Enc.text (some a) (Ag c s).length (Ag c s).length (Ag c s) ∧ Grew w w') := by
 refine sx41.ok ?_
 unfold sx41
 refine (La hs).use fun v w1 ⟨b, hv, hal⟩ => ?_
 subst hv
 refine ⟨_, _, _, rfl, _, rfl, _, rfl, Own.alloc hal (Nat.le_refl _) ?_ ?_, hal.grew⟩
 ·simp only [List.toList_toArray, Enc.text]
  rw [List.map_map, List.flatMap_def]
  induction Ag c s with
  | nil => rfl
  | cons x r ih => simp only [List.map_cons, List.flatten_cons, Function.comp, List.singleton_append, ih]
 ·rw [Ce]; have := List.count_le_length (l := s) (a := c); simp only [maxLen]; omega
theorem Nb {n : Nat} {w : World} (hn : n ≤ 16) : Aa Tryz.prog 53 [.string (bs [48]), .int .i64 (n : Int)] w (Rets fun v w' => v = .string (bs (List.replicate n 48)) ∧ Grew w w') :=
 Aa.of_val (entI Tryz.func53 (by kernel_rfl) (by kernel_rfl)) fun w₀ hw =>
  (Tryz.strings_Repeat (bs [48]) n w₀ (by omega) (by rw [A1]; simp; omega)).mono fun e w' ⟨he, hw'⟩ => ⟨by
   rw [he, A8]
   have : ∀ k : Nat, Lib.repeatL [48] k = List.replicate k (48 : UInt8) := fun k => by
    induction k with
    | zero => rfl
    | succ k ih => rw [List.replicate_succ, ← ih]; rfl
   rw [this]; rfl, hw'⟩
end Go.Proofs.YtbmmaibbiahkkaaGreatDoor
