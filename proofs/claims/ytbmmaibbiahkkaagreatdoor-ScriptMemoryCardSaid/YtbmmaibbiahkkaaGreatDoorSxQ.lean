/- From a call that leaves the old memory alone to a law's row: it returns true and its arguments read as they did. Conditions: none. -/
import Derived.Test.YtbmmaibbiahkkaaGreatDoorSxP
import Derived.ProofKit
import Derived.Deep.Slices
import Derived.OpenShut
import Derived.Deep.Fields
import Derived.SizedLaws
namespace Go.Sx
set_option linter.unusedSimpArgs false
open Go.ChangeShapes Go.WideShapes Go.RowKit
set_option linter.unusedVariables false
section
variable {P : Program} {H : Type} {enc : TypeId × Value → H}
theorem Nz {W w' w₀' : World} (hg : Grew W w') (hh : Ae w' w₀') (hk : Kept W W w' w₀') : Below W.heap.size W w₀' := by
 refine ⟨by rw [← hh.os]; exact hg.os, by rw [← hh.tape]; exact hg.tape, by rw [← hh.output]; exact hg.output, by rw [← hh.size]; exact hg.size, fun k hlt => ?_⟩
 rcases hh.block k with e | e
 ·rw [← e]; exact hg.block k hlt
 ·by_cases hW : W.heap[k]? = some hole
  ·exact hk.same k hW
  ·rw [hg.block k hlt] at e; exact absurd e hW
theorem Fp (hl : laidOutB P = true) {W W' : World} (hb : Below W.heap.size W W') : ∀ {ts : List TypeId} {vs : List Value} {ds : List (DataW H)} {ps : List MemPlace}, (∀ t ∈ ts, P.readableRec t = true ∧ t < P.types.size) →
  DataW.TrodAll enc P W 0 (fun _ => true) true ts vs ds ps → (∀ x ∈ ps, x.block < W.heap.size) → ∀ sp : Nat → Bool, (∀ x ∈ ps, sp x.block = true) → DataW.TrodAll enc P W' 0 sp true ts vs ds ps
 | [], vs, ds, ps, _, h, _, _, _ => by obtain ⟨rfl, rfl, rfl⟩ := trodAll_nil h; exact trodAll_mk0
 | t :: ts, vs, ds, ps, ht, h, hlt, sp, hs => by
  obtain ⟨v, vs', d, ds', p, q, rfl, rfl, rfl, h1, h2⟩ := trodAll_cons h
  have ht0 := ht t (by simp)
  exact trodAll_cons_mk (WideElems.Trod_stays hl ht0.1 ht0.2 h1 (fun x hx => hb.same (hlt x (by simp [hx]))) (fun x hx => hs x (by simp [hx])))
   (Fp hl hb (fun t' h' => ht t' (by simp [h'])) h2 (fun x hx => hlt x (by simp [hx])) sp (fun x hx => hs x (by simp [hx])))
theorem M0 {f : Func} {s : ChangeSpec} {apart fresh handsOn again : Bool} {W W' : World} {args : Array Value} {ds gs : List (DataW H)} {before : List MemPlace} {tb : TypeId}
  (hl : laidOutB P = true) (hvars : s.vars = []) (hres : f.resultTypes = #[tb]) (htb : P.underlying tb = some .bool)
  (hfn : (s.fn H ds).results = [.lit (.bool true)] ∧ (s.fn H ds).args = ds ∧ (s.fn H ds).vars = [])
  (hts : ∀ t ∈ f.params.toList, P.readableRec t = true ∧ t < P.types.size)
  (hW : DataW.Whole enc P f.params.toList s.vars apart W args.toList ds gs before) (hb : Below W.heap.size W W') :
  s.post enc P f apart fresh handsOn again W args (.bool true) W' := by
 have hlt := hW.lt
 have hW0 := hW
 obtain ⟨p, q, hA, hV, hpq, hz, hn⟩ := hW
 rw [hvars] at hV
 obtain ⟨rfl, rfl⟩ := trodVars_none hV
 simp only [List.append_nil] at hpq
 subst hpq
 have hsz : f.resultTypes.size = 1 := by rw [hres]; rfl
 have hr1 : ∀ (b : Nat) (sp : Nat → Bool) (hd : Bool), DataW.TrodAll enc P W' b sp hd f.resultTypes.toList ((Value.bool true).resultList f.resultTypes.size) (s.fn H (ds ++ [])).results [] := by
  intro b sp hd
  rw [List.append_nil, hfn.1, hsz, hres]
  exact trodAll_cons_mk (shut_bool htb _) trodAll_mk0
 have ha1 : ∀ sp : Nat → Bool, (∀ x ∈ before, sp x.block = true) → DataW.TrodAll enc P W' 0 sp true f.params.toList args.toList (s.fn H (ds ++ [])).args before := by
  intro sp hs
  rw [List.append_nil, hfn.2.1]
  exact Fp hl hb hts hA hlt sp hs
 have hv1 : ∀ sp : Nat → Bool, DataW.TrodVars enc P W' sp s.vars (s.fn H (ds ++ [])).vars [] := by
  intro sp
  rw [List.append_nil, hfn.2.2, hvars]; simp [DataW.TrodVars]
 have hold : ∀ x ∈ before, (fun b => decide (b < W.heap.size)) x.block = true := fun x hx => by simpa using hlt x hx
 refine ⟨ds, [], before, [], before, [], hW0, hr1 _ _ _, ha1 _ hold, hv1 _, World.keptBut_mono (fun x hx => ⟨hx, Or.inr (by simpa using hx)⟩) (hb.frame (· ∈ before)), fun _ => ?_⟩
 refine ⟨ok_one hres rfl (okWide_bool_mk htb _), _, _, ([] ++ before) ++ [], ⟨[] ++ before, [], trodAll_append (ha1 _ (fun _ _ => rfl)) (hr1 _ _ _), hv1 _, rfl, ?_, ?_⟩, ?_⟩
 ·intro b off hp
  have hp' : MemPlace.cell b off ∈ before := by simpa using hp
  rw [hb.frozen (p := ⟨b, off, none⟩) (hlt _ hp')]
  exact hz b off hp'
 ·intro ha; simpa using hn ha
 ·intro x hx _; simpa using hx
inductive K where
 | int (k : IntKind)
 | bool
def Ex (P : Program) (t : TypeId) : Bool := match P.underlying t with
 | some (.struct _) => true
 | _ => false
theorem Ex.elim {t : TypeId} (h : Ex P t = true) : ∃ fs, P.underlying t = some (.struct fs) := by
 unfold Ex at h
 split at h
 ·exact ⟨_, by assumption⟩
 ·cases h
end
end Go.Sx
