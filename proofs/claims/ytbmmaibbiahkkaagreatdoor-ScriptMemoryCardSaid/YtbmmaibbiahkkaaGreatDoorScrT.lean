/- How a script's reading leaves. Conditions: none. -/
import Derived.Test.YtbmmaibbiahkkaaGreatDoorProg
import Derived.Test.YtbmmaibbiahkkaaGreatDoorScrL
namespace Go.Proofs.YtbmmaibbiahkkaaGreatDoor
open Go.Sx
set_option maxRecDepth 100000
set_option linter.unusedVariables false
set_option linter.unusedSimpArgs false
open Go.RowKit Go.Maps Go.Sort
def sx18i (q0 : Nat) (q1 : Nat) (q2 : Nat) (rt : TypeId) (rx : Value) (k : World → Prop) (w : World) : Prop :=
 SemW Tryz.prog (Instr.typeAssert (.iface rt (rx)) 20 51 true) (fun u2 w1 => ∃ n3 b4, u2 = .tuple #[.agg #[.int .i64 n3], .bool b4] ∧ ∀ w5, Grew w1 w5 → ifB b4 (∀ w6, Grew w5 w6 → An w6 ⟨q0, 0, none⟩ 0 [.int .i64 0, .int .i64 0, .int .i64 0, .slice none 0 0, .int .i64 0, .int .i64 0, .int .i64 0, .int .i64 0] ∧ ∀ w7, w7 = setCells w6 ⟨q0, 0, none⟩ 0 [.int .i64 0, .int .i64 0, .int .i64 0, .slice none 0 0, .int .i64 0, .int .i64 0, .int .i64 0, .int .i64 0] → Bb w6 w7 [] ∧ An w7 ⟨q1, 0, none⟩ 0 [.slice none 0 0] ∧ ∀ w8, w8 = setCells w7 ⟨q1, 0, none⟩ 0 [.slice none 0 0] → Bb w7 w8 [] ∧ An w8 ⟨q2, 0, none⟩ 0 [.int .i64 n3] ∧ ∀ w9, w9 = setCells w8 ⟨q2, 0, none⟩ 0 [.int .i64 n3] → k w9) (k w5)) w
theorem sx18i.ok {q0 : Nat} {q1 : Nat} {q2 : Nat} {rt : TypeId} {rx : Value} {k : Option (List PanicEntry) → World → Prop} {w : World} (h : sx18i q0 q1 q2 rt rx (k none) w) : D6 Tryz.prog ⟨.fn (.func 18) #[.pointer (some ⟨q0, 0, none⟩), .pointer (some ⟨q1, 0, none⟩), .pointer (some ⟨q2, 0, none⟩)], #[]⟩ (some [{ v := .iface rt rx, recovered := false }]) w k :=
 Ip (H := { locals := [3], sem := [7], draws := [(2, { order := (ol [0,1,2,3,4,5] .nil), bars := [5] })] }) (rv := (.iface rt rx)) (u2 := none) mix Tryz.func18 (by kernel_rfl) (by simp) (.inr ⟨rfl, rfl⟩) (args := [.pointer (some ⟨q0, 0, none⟩), .pointer (some ⟨q1, 0, none⟩), .pointer (some ⟨q2, 0, none⟩)]) (by simp) (Eq.mpr (by kernel_rfl : Ke Tryz.prog { locals := [3], sem := [7], draws := [(2, { order := (ol [0,1,2,3,4,5] .nil), bars := [5] })] } Tryz.f18 [.pointer (some ⟨q0, 0, none⟩), .pointer (some ⟨q1, 0, none⟩), .pointer (some ⟨q2, 0, none⟩)] (.iface rt rx) (k none) w = sx18i q0 q1 q2 rt rx (k none) w) h)
def sx18n (q0 : Nat) (q1 : Nat) (q2 : Nat)  (k : World → Prop) (w : World) : Prop :=
 SemW Tryz.prog (Instr.typeAssert (.nilIface) 20 51 true) (fun u2 w1 => ∃ n3 b4, u2 = .tuple #[.agg #[.int .i64 n3], .bool b4] ∧ ∀ w5, Grew w1 w5 → ifB b4 (∀ w6, Grew w5 w6 → An w6 ⟨q0, 0, none⟩ 0 [.int .i64 0, .int .i64 0, .int .i64 0, .slice none 0 0, .int .i64 0, .int .i64 0, .int .i64 0, .int .i64 0] ∧ ∀ w7, w7 = setCells w6 ⟨q0, 0, none⟩ 0 [.int .i64 0, .int .i64 0, .int .i64 0, .slice none 0 0, .int .i64 0, .int .i64 0, .int .i64 0, .int .i64 0] → Bb w6 w7 [] ∧ An w7 ⟨q1, 0, none⟩ 0 [.slice none 0 0] ∧ ∀ w8, w8 = setCells w7 ⟨q1, 0, none⟩ 0 [.slice none 0 0] → Bb w7 w8 [] ∧ An w8 ⟨q2, 0, none⟩ 0 [.int .i64 n3] ∧ ∀ w9, w9 = setCells w8 ⟨q2, 0, none⟩ 0 [.int .i64 n3] → k w9) (k w5)) w
theorem sx18n.ok {q0 : Nat} {q1 : Nat} {q2 : Nat}  {k : Option (List PanicEntry) → World → Prop} {w : World} (h : sx18n q0 q1 q2  (k none) w) : D6 Tryz.prog ⟨.fn (.func 18) #[.pointer (some ⟨q0, 0, none⟩), .pointer (some ⟨q1, 0, none⟩), .pointer (some ⟨q2, 0, none⟩)], #[]⟩ none w k :=
 Ip (H := { locals := [3], sem := [7], draws := [(2, { order := (ol [0,1,2,3,4,5] .nil), bars := [5] })] }) (rv := .nilIface) (u2 := none) mix Tryz.func18 (by kernel_rfl) (by simp) (.inl ⟨rfl, rfl, rfl⟩) (args := [.pointer (some ⟨q0, 0, none⟩), .pointer (some ⟨q1, 0, none⟩), .pointer (some ⟨q2, 0, none⟩)]) (by simp) (Eq.mpr (by kernel_rfl : Ke Tryz.prog { locals := [3], sem := [7], draws := [(2, { order := (ol [0,1,2,3,4,5] .nil), bars := [5] })] } Tryz.f18 [.pointer (some ⟨q0, 0, none⟩), .pointer (some ⟨q1, 0, none⟩), .pointer (some ⟨q2, 0, none⟩)] .nilIface (k none) w = sx18n q0 q1 q2  (k none) w) h)
def Gr : List Value := [.int .i64 0, .int .i64 0, .int .i64 0, .slice none 0 0, .int .i64 0, .int .i64 0, .int .i64 0, .int .i64 0]
@[reducible] def parD (hs : Nat) : Deferred := ⟨.fn (.func 18) #[.pointer (some ⟨hs, 0, none⟩), .pointer (some ⟨hs + 1, 0, none⟩), .pointer (some ⟨hs + 3, 0, none⟩)], #[]⟩
theorem recN {w : World} {hs : Nat} {k : Option (List PanicEntry) → World → Prop} (h : ∀ w', Grew w w' → k none w') : D6 Tryz.prog (parD hs) none w k := by
 refine sx18n.ok ?_
 unfold sx18n
 exact fun w₀ hw => ⟨.tuple #[.agg #[.int .i64 0], .bool false], w₀, w, by kernel_rfl, hw, Kept.refl _ _, 0, false, rfl, fun w5 hg => ⟨fun h => (by cases h), fun _ => h w5 hg⟩⟩
theorem recI {w : World} {hs : Nat} {e : Int} {c1 c2 c3 : List Value} {k : Option (List PanicEntry) → World → Prop} (h1 : Row w hs 25 c1) (h2 : Row w (hs + 1) 26 c2) (h3 : Row w (hs + 3) 27 c3) (l1 : c1.length = 8) (l2 : c2.length = 1) (l3 : c3.length = 1)
  (h : ∀ w', Row w' hs 25 Gr → Row w' (hs + 1) 26 [.slice none 0 0] → Row w' (hs + 3) 27 [.int .i64 e] → Upd (fun b => b = hs ∨ b = hs + 1 ∨ b = hs + 3) w w' → k none w') :
  D6 Tryz.prog (parD hs) (some (C8 (.iface tF (.agg #[.int .i64 e])))) w k := by
 refine sx18i.ok ?_
 unfold sx18i
 refine fun w₀ hw => ⟨.tuple #[.agg #[.int .i64 e], .bool true], w₀, w, by kernel_rfl, hw, Kept.refl _ _, e, true, rfl, fun w5 hg => ⟨fun _ w6 hg6 => ?_, fun h => (by cases h)⟩⟩
 have hg := hg.trans hg6
 obtain ⟨r0, r1, r2⟩ := (h1.grew hg).setAll' (vs := Gr) (by rw [l1]; rfl)
 refine ⟨r0, ?_⟩
 rintro w7 rfl
 obtain ⟨s0, s1, s2⟩ := ((h2.grew hg).upd r2 (by omega)).setAll' (vs := [.slice none 0 0]) (by rw [l2]; rfl)
 refine ⟨trivial, s0, ?_⟩
 rintro w8 rfl
 obtain ⟨t0, t1, t2⟩ := (((h3.grew hg).upd r2 (by omega)).upd s2 (by omega)).setAll' (vs := [.int .i64 e]) (by rw [l3]; rfl)
 refine ⟨trivial, t0, ?_⟩
 rintro w9 rfl
 exact h _ ((r1.upd s2 (by omega)).upd t2 (by omega)) (s1.upd t2 (by omega)) t1 (hg.then_upd ((r2.mono fun b _ hb => .inl hb).trans ((s2.mono fun b _ hb => .inr (.inl hb)).trans (t2.mono fun b _ hb => .inr (.inr hb)))))
theorem E7 {tmps : Array Value} {hs : Nat} {W : World} {ps : List Value} {s a e : Value} (h2 : tmps.getD 2 undef = .pointer (some ⟨hs, 0, none⟩)) (h3 : tmps.getD 3 undef = .pointer (some ⟨hs + 1, 0, none⟩)) (h4 : tmps.getD 4 undef = .pointer (some ⟨hs + 2, 0, none⟩)) (h5 : tmps.getD 5 undef = .pointer (some ⟨hs + 3, 0, none⟩))
  (hp : Row W hs 25 ps) (hl : ps.length = 8) (hS : Row W (hs + 1) 26 [s]) (hA : Row W (hs + 2) 3 [a]) (hE : Row W (hs + 3) 27 [e]) :
  (results Tryz.f11 tmps).run Tryz.prog W = .ok (.tuple #[.agg ps.toArray, s, a, e]) W := by
 have e1 : (loadVar 25 ⟨hs, 0, none⟩).run Tryz.prog W = .ok (.agg ps.toArray) W := Cm (by kernel_rfl) (n := 8) (by kernel_rfl) hl hp.cellsAt
 have e2 : (loadVar 26 ⟨hs + 1, 0, none⟩).run Tryz.prog W = .ok s W := Bf (by kernel_rfl) (by rw [hS.cell]; rfl)
 have e3 : (loadVar 3 ⟨hs + 2, 0, none⟩).run Tryz.prog W = .ok a W := Bf (by kernel_rfl) (by rw [hA.cell]; rfl)
 have e4 : (loadVar 27 ⟨hs + 3, 0, none⟩).run Tryz.prog W = .ok e W := Bf (by kernel_rfl) (by rw [hE.cell]; rfl)
 rw [H6, show Tryz.f11.results.toList = [.cell 2 25, .cell 3 26, .cell 4 3, .cell 5 27] from by kernel_rfl]
 simp only [List.mapM_cons, List.mapM_nil, Fy, h2, h3, h4, h5, asAddr, pure_bind, Sem.run_bind, e1, e2, e3, e4, Result.andThen_ok, Sem.run_pure]
 rfl
theorem F3 {v W : World} {b : Nat} (h : Ae v W) (hb : b < v.heap.size) : Ae (v.putObj b hole) W := by
 refine ⟨h.os, h.tape, h.drawn, h.output, by rw [← h.size]; simp [World.putObj], fun k => ?_⟩
 by_cases hk : k = b
 ·subst hk; exact .inr (World.putObj_heap_same hb)
 ·rw [World.putObj_heap_other hk]; exact h.block k
theorem Nk {R : Ending → World → Prop} {tmps : Array Value} {hs D : Nat} {v W : World} {ps : List Value} {s a e : Value} (h2 : tmps.getD 2 undef = .pointer (some ⟨hs, 0, none⟩)) (h3 : tmps.getD 3 undef = .pointer (some ⟨hs + 1, 0, none⟩)) (h4 : tmps.getD 4 undef = .pointer (some ⟨hs + 2, 0, none⟩)) (h5 : tmps.getD 5 undef = .pointer (some ⟨hs + 3, 0, none⟩))
  (hv : Ae v W) (hD : W.heap[D]? = some (.deferred (some []))) (hDh : v.heap[D]? = some hole) (hp : Row v hs 25 ps) (hl : ps.length = 8) (hS : Row v (hs + 1) 26 [s]) (hA : Row v (hs + 2) 3 [a]) (hE : Row v (hs + 3) 27 [e])
  (hR : ∀ v' W', Grew v v' → Ae v' W' → (∀ b, b ≠ D → v.heap[b]? = some hole → W'.heap[b]? = W.heap[b]?) → R (.returned (.tuple #[.agg ps.toArray, s, a, e])) W') :
  Bw Tryz.prog Tryz.f11 tmps R [⟨.collected D, #[]⟩, parD hs] .returning W := by
 refine ⟨by simp, .inl ⟨D, _, rfl, run_takeDeferred hD, ?_⟩⟩
 refine Fu (u := none) (v := v) (K := fun u' w' => u' = none ∧ Grew v w') (recN fun w' hg => ⟨rfl, hg⟩) (D2 hv hDh) ?_
 rintro u' v' W' ⟨rfl, hg⟩ hh hk
 refine ⟨_, E7 h2 h3 h4 h5 (hh.at (hp.grew hg) (by simp [hole])) hl (hh.at (hS.grew hg) (by simp [hole])) (hh.at (hA.grew hg) (by simp [hole])) (hh.at (hE.grew hg) (by simp [hole])), hR v' W' hg hh fun b hb hbh => (hk.same b hbh).trans (World.putObj_heap_other hb)⟩
theorem Iq {R : Ending → World → Prop} {tmps : Array Value} {hs D : Nat} {v W : World} {ps : List Value} {s a e0 : Value} {e : Int} (h2 : tmps.getD 2 undef = .pointer (some ⟨hs, 0, none⟩)) (h3 : tmps.getD 3 undef = .pointer (some ⟨hs + 1, 0, none⟩)) (h4 : tmps.getD 4 undef = .pointer (some ⟨hs + 2, 0, none⟩)) (h5 : tmps.getD 5 undef = .pointer (some ⟨hs + 3, 0, none⟩))
  (hv : Ae v W) (hD : W.heap[D]? = some (.deferred (some []))) (hDh : v.heap[D]? = some hole) (hp : Row v hs 25 ps) (hl : ps.length = 8) (hS : Row v (hs + 1) 26 [s]) (hA : Row v (hs + 2) 3 [a]) (hE : Row v (hs + 3) 27 [e0])
  (hR : ∀ v' W', Upd (fun b => b = hs ∨ b = hs + 1 ∨ b = hs + 3) v v' → Ae v' W' → (∀ b, b ≠ D → v.heap[b]? = some hole → W'.heap[b]? = W.heap[b]?) → R (.returned (.tuple #[.agg Gr.toArray, .slice none 0 0, a, .int .i64 e])) W') :
  Bw Tryz.prog Tryz.f11 tmps R [⟨.collected D, #[]⟩, parD hs] (.panicking (C8 (.iface tF (.agg #[.int .i64 e])))) W := by
 refine ⟨by simp, .inl ⟨D, _, rfl, run_takeDeferred hD, ?_⟩⟩
 refine Fu (u := some (C8 (.iface tF (.agg #[.int .i64 e])))) (v := v) (K := fun u' w' => u' = none ∧ Row w' hs 25 Gr ∧ Row w' (hs + 1) 26 [.slice none 0 0] ∧ Row w' (hs + 3) 27 [.int .i64 e] ∧ Upd (fun b => b = hs ∨ b = hs + 1 ∨ b = hs + 3) v w')
  (recI hp hS hE hl rfl rfl fun w' q1 q2 q3 q4 => ⟨rfl, q1, q2, q3, q4⟩) (D2 hv hDh) ?_
 rintro u' v' W' ⟨rfl, q1, q2, q3, q4⟩ hh hk
 refine ⟨_, E7 h2 h3 h4 h5 (hh.at q1 (by simp [hole])) rfl (hh.at q2 (by simp [hole])) (hh.at (hA.upd q4 (by omega)) (by simp [hole])) (hh.at q3 (by simp [hole])), hR v' W' q4 hh fun b hb hbh => (hk.same b hbh).trans (World.putObj_heap_other hb)⟩
end Go.Proofs.YtbmmaibbiahkkaaGreatDoor
