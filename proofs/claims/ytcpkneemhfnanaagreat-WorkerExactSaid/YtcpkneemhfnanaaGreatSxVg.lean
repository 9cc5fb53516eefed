/- A batch's table is sound, and no longer than the records. Conditions: none. -/
import Derived.Test.YtcpkneemhfnanaaGreatSxWo
namespace Go.Sx
set_option linter.unusedSimpArgs false
set_option linter.unusedVariables false
theorem Yk {m : Tab} {k : Int} {v : ValV} : (setM m k v).length ≤ m.length + 1 := by unfold setM; split <;> simp
theorem Wy {kind : Int} : ∀ (ks : List (Int × ValV)) (m : Tab), (ks.foldl (fun m p => putT kind m p.1 p.2) m).length ≤ m.length + ks.length
 | [], m => by simp
 | p :: ks, m => by
  have h1 := Wy (kind := kind) ks (putT kind m p.1 p.2)
  have h2 : (putT kind m p.1 p.2).length ≤ m.length + 1 := Yk
  simp only [List.foldl_cons, List.length_cons] at h1 ⊢
  omega
theorem Yl (list : List OpV) (kind : Int) (rs : List RecV) : (bAll list kind rs).1.length ≤ rs.length := by
 unfold bAll
 rw [Tu]
 have h1 := Wy (kind := kind) (Tt list kind rs) ([] : Tab)
 have h2 : (Tt list kind rs).length ≤ rs.length := List.length_filterMap_le _ _
 simp only [List.length_nil] at h1
 show ((Tt list kind rs).foldl (fun m p => putT kind m p.1 p.2) []).length ≤ rs.length
 omega
theorem T0 (m : Tab) : (Bv m).length = m.length := by unfold Bv; rw [List.length_map, (Bf _).length_eq, List.length_map]
end Go.Sx
namespace Go.Sx
end Go.Sx
