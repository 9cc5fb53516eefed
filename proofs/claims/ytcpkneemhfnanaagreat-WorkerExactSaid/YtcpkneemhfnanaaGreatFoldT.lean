/- What a batch's table is made of. Conditions: none. -/
import Derived.Test.YtcpkneemhfnanaaGreatProg
import Derived.Test.YtcpkneemhfnanaaGreatFoldA
import Derived.Test.YtcpkneemhfnanaaGreatSxVg
namespace Go.Proofs.YtcpkneemhfnanaaGreat
open Go.Sx
set_option maxRecDepth 100000
set_option linter.unusedVariables false
set_option linter.unusedSimpArgs false
theorem H7 (l : List OpV) (kind : Int) (rs : List RecV) : Aq l kind rs = bAll l kind rs := rfl
theorem Pt {l : List OpV} {kind : Int} (hl : ∀ o ∈ l, o.Fits) : ∀ (rs : List RecV) (m : Tab × Int), (∀ x ∈ rs, x.Fits) → D8 m.1 → D8 (rs.foldl (A2 l kind) m).1
 | [], _, _, h => h
 | r :: rs, m, hf, h => by
  have hr := Hl hl (hf r (by simp))
  refine Pt hl rs _ (fun x hx => hf x (by simp [hx])) ?_
  unfold A2
  split
  ·exact Mf h hr.1 (Jc (Jx h _) (Gh hr.2))
  ·split
   ·exact h
   ·exact h
theorem Vm {m : Tab} (h : D8 m) : ∀ x ∈ Bv m, x.Fits := by
 intro x hx
 unfold Bv at hx
 obtain ⟨k, hk, rfl⟩ := List.mem_map.1 hx
 have hk' : k ∈ m.map (·.1) := (Bf _).mem_iff.1 hk
 obtain ⟨p, hp, rfl⟩ := List.mem_map.1 hk'
 exact ⟨(h p hp).1, Jx h _⟩
theorem Ym {l : List OpV} {kind : Int} {rs : List RecV} (hl : ∀ o ∈ l, o.Fits) (hf : ∀ x ∈ rs, x.Fits) : ∀ x ∈ Bv (Aq l kind rs).1, x.Fits := Vm (Pt hl rs _ hf (by intro x hx; simp at hx))
theorem Abu {l : List OpV} {kind : Int} {rs : List RecV} : (Bv (Aq l kind rs).1).length ≤ rs.length := by
 rw [T0, H7]; exact Yl l kind rs
end Go.Proofs.YtcpkneemhfnanaaGreat
