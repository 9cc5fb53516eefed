/- What a batch's table is made of. Conditions: none. -/
import Derived.Test.YtcpkneemhfnanaaGreatProg
import Derived.Test.YtcpkneemhfnanaaGreatFoldA
import Derived.Test.YtcpkneemhfnanaaGreatSxVg
namespace Go.Proofs.YtcpkneemhfnanaaGreat
open Go.Sx
set_option maxRecDepth 100000
set_option linter.unusedVariables false
set_option linter.unusedSimpArgs false
theorem batch_same (l : List OpV) (kind : Int) (rs : List RecV) : batchAll l kind rs = bAll l kind rs := rfl
theorem batch_fits {l : List OpV} {kind : Int} (hl : ∀ o ∈ l, o.Fits) : ∀ (rs : List RecV) (m : Tab × Int), (∀ x ∈ rs, x.Fits) → TabFits m.1 → TabFits (rs.foldl (batchOne l kind) m).1
  | [], _, _, h => h
  | r :: rs, m, hf, h => by
    have hr := runB_fits hl (hf r (by simp))
    refine batch_fits hl rs _ (fun x hx => hf x (by simp [hx])) ?_
    unfold batchOne
    split
    · exact setM_fits h hr.1 (mergeV_fits (getM_fits h _) (ofV_fits hr.2))
    · split
      · exact h
      · exact h
theorem table_fits {m : Tab} (h : TabFits m) : ∀ x ∈ tableT m, x.Fits := by
  intro x hx
  unfold tableT at hx
  obtain ⟨k, hk, rfl⟩ := List.mem_map.1 hx
  have hk' : k ∈ m.map (·.1) := (sortL_perm _).mem_iff.1 hk
  obtain ⟨p, hp, rfl⟩ := List.mem_map.1 hk'
  exact ⟨(h p hp).1, getM_fits h _⟩
theorem tabl_fits {l : List OpV} {kind : Int} {rs : List RecV} (hl : ∀ o ∈ l, o.Fits) (hf : ∀ x ∈ rs, x.Fits) : ∀ x ∈ tableT (batchAll l kind rs).1, x.Fits := table_fits (batch_fits hl rs _ hf (by intro x hx; simp at hx))
theorem tabl_len {l : List OpV} {kind : Int} {rs : List RecV} : (tableT (batchAll l kind rs).1).length ≤ rs.length := by
  rw [tableT_lenV, batch_same]; exact batch_len l kind rs
end Go.Proofs.YtcpkneemhfnanaaGreat
