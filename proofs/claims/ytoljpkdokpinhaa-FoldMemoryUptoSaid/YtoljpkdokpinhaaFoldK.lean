/- What a batch's table is, in memory. Conditions: none. -/
import Derived.Test.YtoljpkdokpinhaaProg
import Derived.Test.YtoljpkdokpinhaaFoldJ
import Derived.Test.YtoljpkdokpinhaaSxVg
namespace Go.Proofs.Ytoljpkdokpinhaa
open Go.Sx
set_option maxRecDepth 100000
set_option linter.unusedVariables false
set_option linter.unusedSimpArgs false
theorem batch_fits {l : List OpV} {kind : Int} (hl : ∀ o ∈ l, o.Fits) : ∀ (rs : List RecV) (m : Tab × Int), (∀ x ∈ rs, x.Fits) → TabFits m.1 → TabFits (rs.foldl (batchOne l kind) m).1
  | [], _, _, h => h
  | r :: rs, m, hf, h => by
    have hr := runB_fits hl (hf r (by simp))
    refine batch_fits hl rs _ (fun x hx => hf x (by simp [hx])) ?_
    unfold batchOne
    split
    · exact setM_fits h hr.1 (mergeV_fits (getM_fits h _) (ofV_fits hr.2))
    · split
      · exact h
      · exact h
theorem table_fits {m : Tab} (h : TabFits m) : ∀ x ∈ tableT m, x.Fits := by
  intro x hx
  unfold tableT at hx
  obtain ⟨k, hk, rfl⟩ := List.mem_map.1 hx
  have hk' : k ∈ m.map (·.1) := (sortL_perm _).mem_iff.1 hk
  obtain ⟨p, hp, rfl⟩ := List.mem_map.1 hk'
  exact ⟨(h p hp).1, getM_fits h _⟩
theorem tabl_fits {l : List OpV} {kind : Int} {rs : List RecV} (hl : ∀ o ∈ l, o.Fits) (hf : ∀ x ∈ rs, x.Fits) : ∀ x ∈ tableT (batchAll l kind rs).1, x.Fits := table_fits (batch_fits hl rs _ hf (by intro x hx; simp at hx))
theorem tabl_len {l : List OpV} {kind : Int} {rs : List RecV} : (tableT (batchAll l kind rs).1).length ≤ rs.length := by
  rw [tableT_lenV, batch_same]; exact batch_len l kind rs
theorem tabl_traps {l : List OpV} {kind : Int} {rs : List RecV} (h : rs.length ≤ 1048576) : (batchAll l kind rs).2 = (trapN l rs : Int) := by
  have := bAll_traps l kind rs ([], 0) (by simp) (by simp; omega)
  exact this.trans (Int.zero_add _)
theorem trapN_len (l : List OpV) (rs : List RecV) : trapN l rs ≤ rs.length := List.length_filter_le _ _
/-- the law's table, of records of bounded number -/
theorem table_okK {oa : Option Addr} {on oc : Nat} {kind : Int} {ra : Option Addr} {rn rc : Nat} {at_ : Int} {l : List OpV} {w : World} {a : Option Addr} {n c : Nat} {rs : List RecV} (hc : checkB l = true) (hk : knownB kind = true) (ho : Reads w Enc.op3 (oa, on, oc) l) (hl : ∀ o ∈ l, o.Fits) (hi : Reads w Enc.rcd (a, n, c) rs) (hf : ∀ x ∈ rs, x.Fits) (hs : rs.length ≤ 1048576) :
    CallsW Try.prog 24 [jobv oa on oc kind ra rn rc at_, .slice a n c] w (Rets fun u w' => ∃ a' n' c', u = .tuple #[.slice a' n' c', .int .i64 (trapN l rs : Int), .bool true] ∧ Own w' w.heap.size 38 Enc.pair a' n' c' (tableT (batchAll l kind rs).1) ∧ Grew w w') := by
  have hlen := tabl_len (l := l) (kind := kind) (rs := rs)
  have := table_okJ (oa := oa) (on := on) (oc := oc) (ra := ra) (rn := rn) (rc := rc) (at_ := at_) hc hk ho hl hi hf (by omega) (table_sound hk hl hf) (by simp only [maxLen]; omega)
  rw [tabl_traps hs] at this
  exact this
/-- Add of two tables -/
theorem add_okK {kind : Int} {l r : List PairV} {a b : Option Addr} {n c m k : Nat} {w : World} (hk : knownB kind = true) (hr : Reads w Enc.pair (a, n, c) l) (hl : ∀ x ∈ l, x.Fits) (hll : l.length ≤ 1048576) (hi : Reads w Enc.pair (b, m, k) r) (hf : ∀ x ∈ r, x.Fits) (hrl : r.length ≤ 1048576) (hs : soundB l = true) (hs' : soundB r = true) :
    CallsW Try.prog 13 [.int .i64 kind, .slice a n c, .slice b m k] w (Rets fun u w' => ∃ a' n' c', u = .tuple #[.slice a' n' c', .int .i64 0] ∧ Own w' w.heap.size 38 Enc.pair a' n' c' (tableT (addT kind [] (l ++ r))) ∧ Grew w w') := by
  have := Add_ok (kind := kind) hr hl (by simp only [maxLen]; omega) hi hf (by simp only [maxLen]; omega) (by omega)
  simpa [hk, hs, hs'] using this
end Go.Proofs.Ytoljpkdokpinhaa
