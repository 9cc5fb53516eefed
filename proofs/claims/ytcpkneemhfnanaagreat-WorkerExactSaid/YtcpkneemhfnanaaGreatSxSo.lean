/- The library's sort of ints, by the shelf's contract. Conditions: none. -/
import Derived.Test.YtcpkneemhfnanaaGreatSxN
import Derived.Test.YtcpkneemhfnanaaGreatSxP
import Derived.Test.YtcpkneemhfnanaaGreatSxZ
import Derived.Sort.Grow
namespace Go.Sx
set_option linter.unusedSimpArgs false
open Go.Sort
variable {P : Program}
theorem Sb {d : List Int} {cur : Array Value} (h : d.length ≤ cur.size) : (putCells (Value.int .i64) 0 d.toArray cur).toList.take d.length = d.map (Value.int .i64) ∧ (putCells (Value.int .i64) 0 d.toArray cur).size = cur.size := by
 refine ⟨?_, by simp [putCells]⟩
 apply List.ext_getElem?
 intro i
 rw [List.getElem?_take, List.getElem?_map]
 by_cases hi : i < d.length
 ·rw [if_pos hi, Array.getElem?_toList]
  unfold putCells
  rw [Array.getElem?_mapIdx, Array.getElem?_eq_getElem (by omega)]
  simp only [Option.map_some, Nat.zero_le, Nat.zero_add, List.size_toArray, true_and, hi, if_true, Nat.sub_zero]
  rw [List.getElem?_eq_getElem hi]; simp [hi]
 ·rw [if_neg hi, List.getElem?_eq_none (by omega)]; rfl
theorem Abj {f : FuncId} {w : World} {B n c : Nat} {e : TypeId} {a : Option Addr} {l : List Int} (hE : Enters P f)
  (h1 : ∀ (blk off cap : Nat) (zs : List Int) (w : World), Holds (Value.int .i64) w blk off zs.toArray → blk < w.heap.size → zs.length < 4611686018427387904 → Calls P f #[.slice (some ⟨blk, off, none⟩) zs.length cap] w fun e w' => e = .returned (.tuple #[]) ∧ ∃ n os, w' = grow (putRow (Value.int .i64) (Sort.ahead w n) blk off (zs.mergeSort fun x y => decide (x ≤ y)).toArray) os)
  (h0 : ∀ (p : Option Addr) (cap : Nat) (w : World), Calls P f #[.slice p 0 cap] w fun e w' => e = .returned (.tuple #[]) ∧ w' = w)
  (ho : Own w B e (Enc.int .i64) a n c l) (hsz : l.length < 2305843009213693952) :
  Aa P f [.slice a n c] w (Rets fun v w' => v = .tuple #[] ∧ Own w' B e (Enc.int .i64) a n c (B3 l) ∧ Upd (Blk a) w w') := by
 have hs0 : B3 [] = [] := by simp [B3]
 rcases ho.out with ⟨rfl, rfl, rfl, rfl⟩ | ⟨g, cur, rfl, hB, hg, hn, hnc, hcm, hcs, htk⟩
 ·refine .mk (.inl ⟨hE, fun w₀ hw => (h0 none 0 w₀).mono fun e w' ⟨he, hw'⟩ => ⟨w, by rw [hw']; exact hw, by rw [hw']; exact Kept.refl _ _, _, he, rfl, by rw [hs0]; exact ho, Upd.refl _ _⟩⟩)
 subst hn
 refine .mk (.inl ⟨hE, fun w₀ hw => ?_⟩)
 have hg₀ := hw.at hg (by simp [hole])
 simp only [Enc.int, Nat.mul_one] at hcs htk
 rw [show l.flatMap (fun n => [Value.int .i64 n]) = l.map (Value.int .i64) from Lm .i64 l] at htk
 have hH : Holds (Value.int .i64) w₀ g 0 l.toArray := fun j hj => by
  have hj' : j < l.length := by simpa using hj
  have : (cur.toList.take l.length)[j]? = some (.int .i64 l[j]) := by rw [htk, List.getElem?_map, List.getElem?_eq_getElem hj']; rfl
  rw [List.getElem?_take, if_pos hj', Array.getElem?_toList] at this
  refine ⟨?_, by simp [World.frozen?, hg₀]⟩
  simp only [World.cell?, hg₀, Nat.zero_add]
  simpa [hj'] using this
 refine (h1 g 0 c l w₀ hH (by rw [← hw.size]; exact lt_of_heap hg) (by omega)).mono ?_
 rintro en w₀' ⟨he, k, os, hw'⟩
 have hsl : (B3 l).length = l.length := (Bf l).length_eq
 obtain ⟨p1, p2⟩ := Sb (d := B3 l) (cur := cur) (by rw [hsl]; omega)
 have hsz' : w₀.heap.size ≤ w₀'.heap.size := by rw [hw']; simp [grow, putRow, mapBlock, Sort.ahead]
 have hold : ∀ b : Nat, b < w₀.heap.size → b ≠ g → w₀'.heap[b]? = w₀.heap[b]? := fun b hb hne => by
  rw [hw']
  simp only [grow, putRow, mapBlock, Sort.ahead]
  rw [Array.getElem?_append_left (by simpa using hb), Array.getElem?_modify, if_neg (fun e => hne e.symm)]
 have hnew : w₀'.heap[g]? = some (.cells (putCells (Value.int .i64) 0 (B3 l).toArray cur) e (0, 0)) := by
  rw [hw']
  simp only [grow, putRow, mapBlock, Sort.ahead]
  have hlt : g < w₀.heap.size := lt_of_heap hg₀
  rw [Array.getElem?_append_left (by simpa using hlt), Array.getElem?_modify, if_pos rfl, hg₀]
  rfl
 have hle : w.heap.size ≤ w₀'.heap.size := by rw [hw.size]; exact hsz'
 have hng : w.heap[g]? ≠ some hole := by rw [hg]; simp [hole]
 refine ⟨Cy w w₀', Hv hle, Iu hle (fun b hb => hold b (by rw [← hw.size]; exact lt_of_heap hb) (fun e => hng (e ▸ hb))), _, he, rfl, ?_, ?_, ?_, ?_, by simp [Cy]; exact hle, fun b hb hne => ?_⟩
 ·refine Own.mk' hsl.symm hB (by rw [Be hng]; exact hnew) hnc hcm (by rw [p2]; simpa [Enc.int] using hcs) ?_
  simp only [Enc.int, Nat.mul_one]
  rw [show (B3 l).flatMap (fun n => [Value.int .i64 n]) = (B3 l).map (Value.int .i64) from Lm .i64 _, ← hsl]
  exact p1
 ·show w₀'.os = w.os; rw [hw', hw.os]; rfl
 ·show w₀'.tape = w.tape; rw [hw', hw.tape]; rfl
 ·show w₀'.output = w.output; rw [hw', hw.output]; rfl
 ·by_cases hh : w.heap[b]? = some hole
  ·rw [D2 hh hle, hh]
  ·rw [Be hh, hold b (by rw [← hw.size]; exact hb) (fun e => hne ⟨_, rfl, e.symm⟩)]
   rcases hw.block b with e | e
   ·exact e.symm
   ·exact absurd e hh
end Go.Sx
