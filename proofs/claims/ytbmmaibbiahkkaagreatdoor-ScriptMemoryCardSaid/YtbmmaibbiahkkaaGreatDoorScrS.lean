/- A script read, whole. Conditions: none. -/
import Derived.Test.YtbmmaibbiahkkaaGreatDoorProg
import Derived.Test.YtbmmaibbiahkkaaGreatDoorScrT
namespace Go.Proofs.YtbmmaibbiahkkaaGreatDoor
open Go.Sx
set_option maxRecDepth 100000
set_option linter.unusedVariables false
set_option linter.unusedSimpArgs false
open Go.RowKit Go.Maps Go.Sort
theorem Ox (w : World) (n : Nat) (hn : w.heap.size = n) (A B C D : Obj) : Grew w ((((w.alloc A).alloc B).alloc C).alloc D) ∧ ((((w.alloc A).alloc B).alloc C).alloc D).heap.size = n + 4 ∧ ((((w.alloc A).alloc B).alloc C).alloc D).heap[n]? = some A ∧
  ((((w.alloc A).alloc B).alloc C).alloc D).heap[n + 1]? = some B ∧ ((((w.alloc A).alloc B).alloc C).alloc D).heap[n + 2]? = some C ∧ ((((w.alloc A).alloc B).alloc C).alloc D).heap[n + 3]? = some D := by
 have step : ∀ (v : World) (o : Obj) (n : Nat), v.heap.size = n → (v.alloc o).heap.size = n + 1 ∧ (v.alloc o).heap[n]? = some o ∧ Grew v (v.alloc o) := fun v o n h => by
  subst h; exact ⟨by simp, (Ar.mk' v o).at_, (Ar.mk' v o).grew⟩
 obtain ⟨s1, h1, g1⟩ := step w A _ hn
 obtain ⟨s2, h2, g2⟩ := step _ B _ s1
 obtain ⟨s3, h3, g3⟩ := step _ C _ s2
 obtain ⟨s4, h4, g4⟩ := step _ D _ s3
 exact ⟨g1.trans (g2.trans (g3.trans g4)), s4, g4.heap (g3.heap (g2.heap h1)), g4.heap (g3.heap h2), g4.heap h3, h4⟩
theorem Qk (w : World) (A B C D E F : Obj) : Grew w ((((((w.alloc A).alloc B).alloc C).alloc D).alloc E).alloc F) ∧ ((((((w.alloc A).alloc B).alloc C).alloc D).alloc E).alloc F).heap.size = w.heap.size + 6 ∧ ((((((w.alloc A).alloc B).alloc C).alloc D).alloc E).alloc F).heap[w.heap.size]? = some A ∧
  ((((((w.alloc A).alloc B).alloc C).alloc D).alloc E).alloc F).heap[w.heap.size + 1]? = some B ∧ ((((((w.alloc A).alloc B).alloc C).alloc D).alloc E).alloc F).heap[w.heap.size + 2]? = some C ∧ ((((((w.alloc A).alloc B).alloc C).alloc D).alloc E).alloc F).heap[w.heap.size + 3]? = some D ∧
  ((((((w.alloc A).alloc B).alloc C).alloc D).alloc E).alloc F).heap[w.heap.size + 4]? = some E ∧ ((((((w.alloc A).alloc B).alloc C).alloc D).alloc E).alloc F).heap[w.heap.size + 5]? = some F := by
 have step : ∀ (v : World) (o : Obj) (n : Nat), v.heap.size = n → (v.alloc o).heap.size = n + 1 ∧ (v.alloc o).heap[n]? = some o ∧ Grew v (v.alloc o) := fun v o n h => by
  subst h; exact ⟨by simp, (Ar.mk' v o).at_, (Ar.mk' v o).grew⟩
 obtain ⟨s1, h1, g1⟩ := step w A _ rfl
 obtain ⟨s2, h2, g2⟩ := step _ B _ s1
 obtain ⟨s3, h3, g3⟩ := step _ C _ s2
 obtain ⟨s4, h4, g4⟩ := step _ D _ s3
 obtain ⟨s5, h5, g5⟩ := step _ E _ s4
 obtain ⟨s6, h6, g6⟩ := step _ F _ s5
 exact ⟨g1.trans (g2.trans (g3.trans (g4.trans (g5.trans g6)))), s6, g6.heap (g5.heap (g4.heap (g3.heap (g2.heap h1)))), g6.heap (g5.heap (g4.heap (g3.heap h2))), g6.heap (g5.heap (g4.heap h3)), g6.heap (g5.heap h4), g6.heap h5, h6⟩
def P6 (q2 q3 q4 q5 q6 : Nat) (k : World → Prop) (w : World) : Prop :=
 ∀ w1, Grew w w1 → ∃ p2, w1.cell? ⟨q6, 0, none⟩ = some (.pointer p2) ∧ Ac p2 (fun d3 => ∃ n4 n5 n6 a7 l7 c7 n8 n9 n10 n11, Ah w1 d3 0 [.int .i64 n4, .int .i64 n5, .int .i64 n6, .slice a7 l7 c7, .int .i64 n8, .int .i64 n9, .int .i64 n10, .int .i64 n11] ∧ ∃ p12, w1.cell? ⟨q6, 0, none⟩ = some (.pointer p12) ∧ Ac p12 (fun d13 => ∃ a14 l14 c14, w1.cell? (Addr.add d13 8) = some (.slice a14 l14 c14) ∧ An w1 ⟨q2, 0, none⟩ 0 [.int .i64 n4, .int .i64 n5, .int .i64 n6, .slice a7 l7 c7, .int .i64 n8, .int .i64 n9, .int .i64 n10, .int .i64 n11] ∧
  ∀ w15, w15 = setCells w1 ⟨q2, 0, none⟩ 0 [.int .i64 n4, .int .i64 n5, .int .i64 n6, .slice a7 l7 c7, .int .i64 n8, .int .i64 n9, .int .i64 n10, .int .i64 n11] → Bb w1 w15 [(Addr.add d13 8), ⟨q6, 0, none⟩, d3, ⟨q6, 0, none⟩] ∧ An w15 ⟨q3, 0, none⟩ 0 [.slice a14 l14 c14] ∧
  ∀ w16, w16 = setCells w15 ⟨q3, 0, none⟩ 0 [.slice a14 l14 c14] → An w16 ⟨q4, 0, none⟩ 0 [.int .i64 0] ∧ ∀ w17, w17 = setCells w16 ⟨q4, 0, none⟩ 0 [.int .i64 0] → An w17 ⟨q5, 0, none⟩ 0 [.int .i64 0] ∧ ∀ w18, w18 = setCells w17 ⟨q5, 0, none⟩ 0 [.int .i64 0] → k w18))
theorem Oy {t : L8} {w0 T : World} {hs : Nat} {n : Int} {v W : World} {x : RdX} {st : ScrS} {p : ScrP} {k : World → Prop} (hV : ParV t w0 T hs n v W x st) (hp : st.p = some p)
  (h : ∀ v', Row v' hs 25 [.int .i64 p.n0, .int .i64 p.n1, .int .i64 p.n2, .slice x.o.1 x.o.2.1 x.o.2.2, .int .i64 p.n3, .int .i64 p.n4, .int .i64 p.n5, .int .i64 p.n6] → Row v' (hs + 1) 26 [.slice x.s.1 x.s.2.1 x.s.2.2] → Row v' (hs + 2) 3 [.int .i64 0] → Row v' (hs + 3) 27 [.int .i64 0] → Upd (fun b => b = hs ∨ b = hs + 1 ∨ b = hs + 2 ∨ b = hs + 3) v v' → k v') :
  P6 hs (hs + 1) (hs + 2) (hs + 3) (hs + 5) k v := by
 intro w1 hg
 have hR := hV.rR.grew hg
 have hrd := hV.rd.row.grew hg
 rw [hp] at hrd
 refine ⟨_, by rw [hR.cell]; rfl, ?_⟩
 simp only [Ac]
 have h10 : Ah w1 ⟨hs + 4, 0, none⟩ 0 [.int .i64 p.n0, .int .i64 p.n1, .int .i64 p.n2, .slice x.o.1 x.o.2.1 x.o.2.2, .int .i64 p.n3, .int .i64 p.n4, .int .i64 p.n5, .int .i64 p.n6, .slice x.s.1 x.s.2.1 x.s.2.2, .bool true] := hrd.cellsAt
 obtain ⟨c0, c1, c2, c3, c4, c5, c6, c7, -⟩ := h10
 refine ⟨_, _, _, _, _, _, _, _, _, _, ⟨c0, c1, c2, c3, c4, c5, c6, c7, trivial⟩, _, by rw [hR.cell]; rfl, ?_⟩
 simp only [Ac]
 obtain ⟨r0, r1, r2⟩ := (hV.rP.grew hg).setAll' (vs := [.int .i64 p.n0, .int .i64 p.n1, .int .i64 p.n2, .slice x.o.1 x.o.2.1 x.o.2.2, .int .i64 p.n3, .int .i64 p.n4, .int .i64 p.n5, .int .i64 p.n6]) rfl
 refine ⟨_, _, _, (by rw [Bj, Nat.zero_add, Row.cell hrd]; rfl : w1.cell? (Addr.add ⟨hs + 4, 0, none⟩ 8) = some (.slice x.s.1 x.s.2.1 x.s.2.2)), r0, ?_⟩
 rintro w15 rfl
 have f6 := r2.block (hs + 5) (hV.rR.grew hg).lt (by omega)
 have f4 := r2.block (hs + 4) hrd.lt (by omega)
 obtain ⟨s0, s1, s2⟩ := ((hV.rS.grew hg).upd r2 (by omega)).setAll' (vs := [.slice x.s.1 x.s.2.1 x.s.2.2]) rfl
 refine ⟨⟨f4, f6, f4, f6, trivial⟩, s0, ?_⟩
 rintro w16 rfl
 obtain ⟨t0, t1, t2⟩ := (((hV.rA.grew hg).upd r2 (by omega)).upd s2 (by omega)).setAll' (vs := [.int .i64 0]) rfl
 refine ⟨t0, ?_⟩
 rintro w17 rfl
 obtain ⟨u0, u1, u2⟩ := ((((hV.rE.grew hg).upd r2 (by omega)).upd s2 (by omega)).upd t2 (by omega)).setAll' (vs := [.int .i64 0]) rfl
 refine ⟨u0, ?_⟩
 rintro w18 rfl
 exact h _ (((r1.upd s2 (by omega)).upd t2 (by omega)).upd u2 (by omega)) ((s1.upd t2 (by omega)).upd u2 (by omega)) (t1.upd u2 (by omega)) u1
  (hg.then_upd ((r2.mono fun b _ hb => .inl hb).trans ((s2.mono fun b _ hb => .inr (.inl hb)).trans ((t2.mono fun b _ hb => .inr (.inr (.inl hb))).trans (u2.mono fun b _ hb => .inr (.inr (.inr hb)))))))
theorem Lh {W : World} {k b : Nat} {o : Obj} {x : Value} (h : W.heap[k]? = some o) (ho : ∀ c e f, o ≠ .cells c e f) : (W.setCell ⟨b, 0, none⟩ x).heap[k]? = some o := by
 simp only [World.setCell, Array.getElem?_modify, h]
 split
 ·cases o with
  | cells c e f => exact absurd rfl (ho c e f)
  | _ => rfl
 ·rfl
theorem Oz {t : L8} {w0 T : World} {hs l D b1 b2 b3 : Nat} {it : Value} {fn : FuncId} {i : Nat} {W : World} {x : Value} (h2 : w0.heap.size ≤ b2) (h : ParJ t w0 T hs l D b1 b2 b3 it fn i W) : ParJ t w0 T hs l D b1 b2 b3 it fn i (W.setCell ⟨b2, 0, none⟩ x) := by
 obtain ⟨v, xr, st, hV, hH, hgo, hfew⟩ := h.see
 refine ⟨⟨v, xr, st, { hV with hides := I5 hV.hides hH.2.2.2.1, same := fun b hb => ?_ }, hH, hgo, hfew⟩, Lh h.rec_ (fun _ _ _ e => by cases e), Lh h.defs (fun _ _ _ e => by cases e)⟩
 rw [← hV.same b hb]; have := Cx hb; simp only [World.setCell, Array.getElem?_modify]; rw [if_neg (by omega)]
def rx0 : RdX := ⟨(none, 0, 0), (none, 0, 0)⟩
set_option maxRecDepth 100000 in
set_option maxHeartbeats 2000000 in
theorem E8 {t : L8} {w : World} (hG : Glob w) : Aa Tryz.prog 11 [.string (bs t)] w (Rets fun v w' => Mv w.heap.size (B6 t) v w' ∧ Grew w w') := by
 refine ⟨.inl ⟨⟨_, Tryz.func11, by kernel_rfl, by kernel_rfl⟩, fun w₀ hw => ?_⟩⟩
 refine I4 Tryz.func11 rfl ?_
 simp only [Tryz.ntmps11, List.size_toArray, List.length_cons, List.length_nil, Nat.reduceAdd, Nat.reduceSub, Array.replicate_succ, Array.replicate_zero, List.push_toArray, List.append_toArray, List.nil_append, List.cons_append]
 refine Cl (Dj (wpIn_wide (n := 0).1 ?_))
 gi_wp2
 have hsz := hw.size.symm
 refine Cl (Dj (wpIn_wide (n := 0).1 ?_))
 by_cases hbig : 262144 < t.length
 ·have hb : decide ((262144 : Int) < ((bs t).size : Int)) = true := by rw [A1, decide_eq_true_eq]; omega
  gi_wp2
  refine .inr ⟨by simp, ?_⟩
  have hP : B6 t = .error (6, 0) := by unfold B6; rw [if_pos hbig]
  obtain ⟨-, -, r0, r1, r2, r3⟩ := Ox w₀ _ rfl (.cells Gr.toArray 25) (.cells #[.slice none 0 0] 26) (.cells #[.int .i64 0] 3) (.cells #[.int .i64 6] 27)
  obtain ⟨hg, -⟩ := Ox w _ rfl (.cells Gr.toArray 25) (.cells #[.slice none 0 0] 26) (.cells #[.int .i64 0] 3) (.cells #[.int .i64 6] 27)
  refine ⟨_, E7 (hs := w₀.heap.size) (ps := Gr) rfl rfl rfl rfl r0 rfl r1 r2 r3, _, ((((hw.alloc _).alloc _).alloc _).alloc _), (((Kept.alloc hw _ _).trans (Kept.alloc (hw.alloc _) _ _)).trans (Kept.alloc ((hw.alloc _).alloc _) _ _)).trans (Kept.alloc (((hw.alloc _).alloc _).alloc _) _ _), _, rfl, ?_, hg⟩
  rw [hP]; rfl
 ·have hb : decide ((262144 : Int) < ((bs t).size : Int)) = false := by rw [A1, decide_eq_false_iff_not]; omega
  gi_wp2
  refine Cl (Dj (wpIn_wide (n := 0).1 ?_))
  gi_wp2
  refine Cl (Dj (wpIn_wide (n := 0).1 ?_))
  gi_wp2
  refine Cl (Cl (Dj (wpIn_wide (n := 0).1 ?_)))
  gi_wp2
  generalize hWc : World.alloc _ _ = Wc
  obtain ⟨vc, hvc⟩ : ∃ vc, ((((((w.alloc (.cells Gr.toArray 25)).alloc (.cells #[.slice none 0 0] 26)).alloc (.cells #[.int .i64 0] 3)).alloc (.cells #[.int .i64 0] 27)).alloc (.cells (Ba (Eg none) rx0 false).toArray 55)).alloc (.cells #[.pointer (some ⟨w.heap.size + 4, 0, none⟩)] 53)) = vc := ⟨_, rfl⟩
  obtain ⟨hg, hvs, r0, r1, r2, r3, r4, r5⟩ := Qk w (.cells Gr.toArray 25) (.cells #[.slice none 0 0] 26) (.cells #[.int .i64 0] 3) (.cells #[.int .i64 0] 27) (.cells (Ba (Eg none) rx0 false).toArray 55) (.cells #[.pointer (some ⟨w.heap.size + 4, 0, none⟩)] 53)
  rw [hvc] at hg hvs r0 r1 r2 r3 r4 r5
  have hvW : Ae vc Wc := by
   rw [← hWc, ← hvc]
   exact (((((hw.alloc _).alloc _).alloc _).alloc _).alloc _).alloc _
  have hkc : Kept w w₀ vc Wc := by
   rw [← hWc, ← hvc]
   exact ((((((Kept.alloc hw _ _).trans (Kept.alloc (hw.alloc _) _ _)).trans (Kept.alloc ((hw.alloc _).alloc _) _ _)).trans (Kept.alloc (((hw.alloc _).alloc _).alloc _) _ _)).trans (Kept.alloc ((((hw.alloc _).alloc _).alloc _).alloc _) _ _)).trans (Kept.alloc (((((hw.alloc _).alloc _).alloc _).alloc _).alloc _) _ _))
  have hE : Go.Sx.Enters Tryz.prog 19 := ⟨_, Tryz.func19, by kernel_rfl, by kernel_rfl⟩
  refine ⟨trivial, rfl, (callsIn_wide.2 ((Lg (s := t)).callsAt hE hvW)).mono ?_⟩
  rintro e W' ⟨v', hh, hk, vv, rfl, b1, b2, b3, rfl, ⟨hb1, hb2, hb3⟩, h12, h32, hbx, hg'⟩
  clear hWc hvc hb hw hsz
  gi_wp2
  -- the iterator's boxes are hidden
  have hvs' := hg'.size
  have lb1 := lt_of_heap hbx.1
  have lb2 := lt_of_heap hbx.2.1
  have lb3 := lt_of_heap hbx.2.2
  obtain ⟨v3, hv3⟩ : ∃ v3, ((v'.putObj b1 hole).putObj b2 hole).putObj b3 hole = v3 := ⟨_, rfl⟩
  have hh3 : Ae v3 W' := by
   rw [← hv3]
   exact F3 (F3 (F3 hh lb1) (by simpa using lb2)) (by simpa using lb3)
  have o3 : ∀ k, k ≠ b1 → k ≠ b2 → k ≠ b3 → v3.heap[k]? = v'.heap[k]? := fun k k1 k2 k3 => by
   rw [← hv3, World.putObj_heap_other k3, World.putObj_heap_other k2, World.putObj_heap_other k1]
  have s3 : v3.heap.size = v'.heap.size := by rw [← hv3]; simp
  have hole3 : v3.heap[b3]? = some hole := by rw [← hv3]; exact World.putObj_heap_same (by simpa using lb3)
  have hole2 : v3.heap[b2]? = some hole := by
   rw [← hv3, World.putObj_heap_other (fun e => h32 e.symm)]; exact World.putObj_heap_same (by simpa using lb2)
  have hole1 : v3.heap[b1]? = some hole := by
   rw [← hv3]
   by_cases e : b1 = b3
   ·rw [e]; exact World.putObj_heap_same (by simpa using lb3)
   ·rw [World.putObj_heap_other e, World.putObj_heap_other h12]; exact World.putObj_heap_same lb1
  have hg3 : Grew vc v3 := by
   refine ⟨by rw [← hv3]; exact hg'.os, by rw [← hv3]; exact hg'.tape, by rw [← hv3]; exact hg'.output, by rw [s3]; exact hg'.size, fun k hk => ?_⟩
   rw [o3 k (by omega) (by omega) (by omega)]; exact hg'.block k hk
  have hbW : SBox W' b1 b2 b3 t := ⟨hh.at hbx.1 (by simp [hole]), hh.at hbx.2.1 (by simp [hole]), hh.at hbx.2.2 (by simp [hole])⟩
  have hsame : ∀ b : Nat, w.heap[b]? = some hole → W'.heap[b]? = w₀.heap[b]? := fun b hb => (hk.same b (hkc.hid b hb)).trans (hkc.same b hb)
  clear hv3 hbx hh hk hg'
  have hWs := hh3.size
  obtain ⟨W1, hW1⟩ : ∃ W1, (W'.alloc (.deferred (some []))).alloc (.loop (Dp t w.heap.size W'.heap.size (.func (.func 58) #[] #[.pointer (some ⟨b1, 0, none⟩), .pointer (some ⟨b2, 0, none⟩), .pointer (some ⟨b3, 0, none⟩)]) 11 .ready)) = W1 := ⟨_, rfl⟩
  refine L9 (Ma (l := W'.heap.size + 1) (mark := [⟨.collected W'.heap.size, #[]⟩]) (w₁ := W1) (w₁' := W1) (w₂ := W1) (f' := 58) (d := { target := .fn (.func 58) #[.pointer (some ⟨b1, 0, none⟩), .pointer (some ⟨b2, 0, none⟩), .pointer (some ⟨b3, 0, none⟩)], args := #[.func (.yield (W'.heap.size + 1)) #[] #[]] })
   (args := #[.func (.yield (W'.heap.size + 1)) #[] #[], .pointer (some ⟨b1, 0, none⟩), .pointer (some ⟨b2, 0, none⟩), .pointer (some ⟨b3, 0, none⟩)]) ?_ ?_ ?_ ?_)
  ·rw [← hW1]; exact run_enterLoop_outer _ _ _ _ _
  ·simp [resolve, go_sem]
  ·simp [invoke, go_sem, Bs (P := Tryz.prog) (g := 58) ⟨_, Tryz.func58, by kernel_rfl, by kernel_rfl⟩]
  obtain ⟨v4, hv4⟩ : ∃ v4, (v3.alloc hole).alloc hole = v4 := ⟨_, rfl⟩
  have a1 := Ar.mk' v3 hole
  have a2 := Ar.mk' (v3.alloc hole) hole
  have hs1 : (v3.alloc hole).heap.size = v3.heap.size + 1 := by simp
  rw [hv4] at a2
  have hg4 : Grew vc v4 := hg3.trans (a1.grew.trans a2.grew)
  have h4W : Ae v4 W1 := by rw [← hW1, ← hv4]; exact (hh3.allocHole _).allocHole _
  have hgw := hg.trans hg4
  have old4 : ∀ {k : Nat}, v3.heap[k]? = some hole → v4.heap[k]? = some hole := fun h => (a1.grew.trans a2.grew).heap h
  have hDh : v4.heap[W'.heap.size]? = some hole := by rw [← hWs]; exact a2.grew.heap a1.at_
  have hlh : v4.heap[W'.heap.size + 1]? = some hole := by have := a2.at_; rwa [hs1, hWs] at this
  have hL1 : W1.heap[W'.heap.size + 1]? = some (.loop (Dp t w.heap.size W'.heap.size (.func (.func 58) #[] #[.pointer (some ⟨b1, 0, none⟩), .pointer (some ⟨b2, 0, none⟩), .pointer (some ⟨b3, 0, none⟩)]) 11 .ready)) := by
   rw [← hW1]; have := World.alloc_heap_new (W'.alloc (.deferred (some []))) (.loop (Dp t w.heap.size W'.heap.size (.func (.func 58) #[] #[.pointer (some ⟨b1, 0, none⟩), .pointer (some ⟨b2, 0, none⟩), .pointer (some ⟨b3, 0, none⟩)]) 11 .ready)); rwa [World.size_alloc] at this
  have hD1 : W1.heap[W'.heap.size]? = some (.deferred (some [])) := by rw [← hW1]; exact (Below.heap_alloc _ _ _ (by simp)).trans (World.alloc_heap_new W' _)
  have oldW : ∀ {k : Nat}, k < W'.heap.size → W1.heap[k]? = W'.heap[k]? := fun hk => by rw [← hW1]; exact (Below.heap_alloc _ _ _ (by simp; omega)).trans (Below.heap_alloc _ _ _ hk)
  have hVs : ∀ b : Nat, w.heap[b]? = some hole → W1.heap[b]? = w₀.heap[b]? := fun b hb => by have := Cx hb; rw [oldW (by omega)]; exact hsame b hb
  have hb1W : SBox W1 b1 b2 b3 t := ⟨(oldW (by omega)).trans hbW.1, (oldW (by omega)).trans hbW.2.1, (oldW (by omega)).trans hbW.2.2⟩
  have hV0 : ParV t w w₀ w.heap.size 0 v4 W1 rx0 ⟨none, []⟩ := ⟨h4W, hg4.heap r0, hg4.heap r1, hg4.heap r2, hg4.heap r3, hg4.heap r5, ⟨hg4.heap r4, by omega, Own.nil _ _ _ _, Own.nil _ _ _ _⟩, hgw, hVs⟩
  clear hW1 hv4
  refine (callsIn_wide.1 (Qj 2 (by omega) (W'.heap.size + 1) b1 b2 b3 h12 h32 t (by omega) (fun i W => ParJ t w w₀ w.heap.size (W'.heap.size + 1) W'.heap.size b1 b2 b3 (.func (.func 58) #[] #[.pointer (some ⟨b1, 0, none⟩), .pointer (some ⟨b2, 0, none⟩), .pointer (some ⟨b3, 0, none⟩)]) 11 i W) (fun ch W => ParX t w w₀ w.heap.size W'.heap.size ch W)
   (fun i W v h => Oz (by omega) h) (fun i x r W hJ hx hb => Ow 1 hG (Nat.le_refl _) (by omega) (by omega) Tryz.func11 hJ hx hb) W1 ⟨⟨v4, rx0, ⟨none, []⟩, hV0, ⟨hlh, hDh, old4 hole1, old4 hole2, old4 hole3⟩, rfl, Nat.le_refl _⟩, hL1, hD1⟩ hb1W)).mono ?_
  have hsmall : ¬ 262144 < t.length := hbig
  have hwW : w.heap.size < W'.heap.size := by omega
  clear hL1 hD1 oldW hVs hb1W hV0 hDh hlh old4 hgw h4W hg4 a1 a2 hs1 hbW hsame hole1 hole2 hole3 hg3 s3 o3 hh3
  rintro e W3 (⟨rfl, hJ⟩ | ⟨ch, rfl, hX⟩)
  ·refine .inl ⟨_, rfl, _, run_endLoop hJ.rec_ (by simp [Dp]), .inl rfl, .inl ⟨rfl, ?_⟩⟩
   obtain ⟨v, xr, st, hV, ⟨hl, hD, -⟩, hgo, -⟩ := hJ.see
   have hDW := hJ.defs
   rw [List.drop_length] at hgo
   have hbK : W3.heap[W'.heap.size]? = some (.deferred (some [])) := hDW
   generalize hLp : (Obj.loop _) = oL
   obtain ⟨W4, hW4⟩ : ∃ W4, W3.putObj (W'.heap.size + 1) oL = W4 := ⟨_, rfl⟩
   rw [hW4]
   have hh4 : Ae v W4 := hW4 ▸ D2 hV.hides hl
   have hD4 : W4.heap[W'.heap.size]? = some (.deferred (some [])) := by rw [← hW4]; exact (World.putObj_heap_other (by omega)).trans hDW
   have hs4 : ∀ b : Nat, w.heap[b]? = some hole → W4.heap[b]? = w₀.heap[b]? := fun b hb => by rw [← hW4]; exact (World.putObj_heap_other (by have := Cx hb; omega)).trans (hV.same b hb)
   have hrow := hh4.at hV.rd.row (by simp [hole])
   obtain ⟨hcR, hfR⟩ := Bg (hh4.at hV.rR (by simp [hole]))
   obtain ⟨e3, e8, e9, el, -⟩ := Im (Io st.p) xr st.p.isSome
   have hc9 : W4.cell? ⟨w.heap.size + 4, 9, none⟩ = some (.bool st.p.isSome) := by rw [Row.cell hrow, e9]
   clear hLp hW4
   refine Cl (Dj (wpIn_wide (n := 0).1 ?_))
   gi_wp2
   have hEm : Go.Sx.Enters Tryz.prog 21 := ⟨_, Tryz.func21, by kernel_rfl, by kernel_rfl⟩
   refine ⟨trivial, rfl, (callsIn_wide.2 ((A9 (ok := st.p.isSome) (e := 210)).callsAt hEm hh4)).mono ?_⟩
   rintro e W5 ⟨w', hh5, hk5, hor⟩
   cases hp : st.p with
   | none =>
    rw [hp] at hor
    obtain ⟨rfl, rfl⟩ := hor
    refine .inr ⟨by simp, ?_⟩
    have hD5 := (hk5.same _ hD).trans hD4
    refine Iq (hs := w.heap.size) (D := W'.heap.size) (v := w') rfl rfl rfl rfl hh5 hD5 hD hV.rP rfl hV.rS hV.rA hV.rE fun v' W'' hu hh' hsm => ?_
    have hgv := hV.grew.then_own hu fun b hb => by omega
    have hP : B6 t = .error (210, (Ag 10 t).length) := by unfold B6; rw [if_neg hsmall, hgo]; simp only [Ap, hp]
    refine ⟨v', hh', ⟨fun b hb => hgv.heap hb, fun b hb => ((hsm b (by have := Cx hb; omega) (hV.grew.heap hb)).trans (hk5.same b (hV.grew.heap hb))).trans (hs4 b hb), hgv.size⟩, _, rfl, ?_, hgv⟩
    rw [hP]; rfl
   | some p =>
    rw [hp] at hor
    obtain ⟨_, rfl, rfl, rfl⟩ := hor
    gi_wp2
    have hD5 := (hk5.same _ hD).trans hD4
    have hs5 : ∀ b : Nat, w.heap[b]? = some hole → W5.heap[b]? = w₀.heap[b]? := fun b hb => (hk5.same b (hV.grew.heap hb)).trans (hs4 b hb)
    clear hfR hcR hc9 e3 e8 e9 el hrow
    refine Cl (Dj ?_)
    refine Gx (H := { draws := [(11, { order := (ol [0, 1, 2, 3, 4, 5, 6, 7, 8, 9, 10, 11] .nil), bars := [9, 10, 11] })] }) mix (wi := w') (wi₀ := W5) (n := 43) _ []
     (fun e s' v' => e = .normal ∧ s'.defs = [⟨.collected W'.heap.size, #[]⟩, parD w.heap.size] ∧ Row v' w.heap.size 25 [.int .i64 p.n0, .int .i64 p.n1, .int .i64 p.n2, .slice xr.o.1 xr.o.2.1 xr.o.2.2, .int .i64 p.n3, .int .i64 p.n4, .int .i64 p.n5, .int .i64 p.n6] ∧ Row v' (w.heap.size + 1) 26 [.slice xr.s.1 xr.s.2.1 xr.s.2.2] ∧ Row v' (w.heap.size + 2) 3 [.int .i64 0] ∧ Row v' (w.heap.size + 3) 27 [.int .i64 0] ∧ Upd (fun b => b = w.heap.size ∨ b = w.heap.size + 1 ∨ b = w.heap.size + 2 ∨ b = w.heap.size + 3) w' v')
     { env := [(2, .val (.pointer (some ⟨w.heap.size, 0, none⟩))), (3, .val (.pointer (some ⟨w.heap.size + 1, 0, none⟩))), (4, .val (.pointer (some ⟨w.heap.size + 2, 0, none⟩))), (5, .val (.pointer (some ⟨w.heap.size + 3, 0, none⟩))), (6, .val (.pointer (some ⟨w.heap.size + 5, 0, none⟩)))], loc := [], defs := [⟨.collected W'.heap.size, #[]⟩, parD w.heap.size] } w' _ W5 (fun i => i) _ ?_ ?_ ?_
    ·refine Eq.mpr (?_ : _ = P6 w.heap.size (w.heap.size + 1) (w.heap.size + 2) (w.heap.size + 3) (w.heap.size + 5) (fun v' => Exit.normal = .normal ∧ [(⟨.collected W'.heap.size, #[]⟩ : Deferred), parD w.heap.size] = [⟨.collected W'.heap.size, #[]⟩, parD w.heap.size] ∧ Row v' w.heap.size 25 [.int .i64 p.n0, .int .i64 p.n1, .int .i64 p.n2, .slice xr.o.1 xr.o.2.1 xr.o.2.2, .int .i64 p.n3, .int .i64 p.n4, .int .i64 p.n5, .int .i64 p.n6] ∧ Row v' (w.heap.size + 1) 26 [.slice xr.s.1 xr.s.2.1 xr.s.2.2] ∧ Row v' (w.heap.size + 2) 3 [.int .i64 0] ∧ Row v' (w.heap.size + 3) 27 [.int .i64 0] ∧ Upd (fun b => b = w.heap.size ∨ b = w.heap.size + 1 ∨ b = w.heap.size + 2 ∨ b = w.heap.size + 3) w' v') w') ?_
     ·kernel_rfl
     ·exact Oy { hV with hides := hh5, same := hs5 : ParV t w w₀ w.heap.size _ w' W5 xr st } hp fun v' q1 q2 q3 q4 q5 => ⟨rfl, rfl, q1, q2, q3, q4, q5⟩
    ·refine ⟨rfl, rfl, hh5, Kept.refl _ _, fun t e he => ?_, fun id lb hl => by simp [getL, Go.Sx.get] at hl, fun id id' lb lb' hl => by simp [getL, Go.Sx.get] at hl, fun id lb hl => by simp [Go.Sx.get] at hl⟩
     simp only [Av] at he
     split at he
     ·rename_i h0; subst h0; cases he; rfl
     split at he
     ·rename_i h0; subst h0; cases he; rfl
     split at he
     ·rename_i h0; subst h0; cases he; rfl
     split at he
     ·rename_i h0; subst h0; cases he; rfl
     split at he
     ·rename_i h0; subst h0; cases he; rfl
     ·cases he
    ·rintro e s' a' v' W6 ρ' ⟨rfl, hds, q1, q2, q3, q4, q5⟩ hr6 hag -
     refine .inl ⟨rfl, Dj (wp_ret ?_)⟩
     have hdef := hr6.nodef
     rw [hds] at hdef
     have at_ : ∀ t, t < 7 → a'.tmps.getD t undef = _ := fun t ht => hag t (by
      have : t ≠ 35 ∧ t ≠ 36 ∧ t ≠ 37 ∧ t ≠ 38 ∧ t ≠ 39 ∧ t ≠ 40 ∧ t ≠ 41 ∧ t ≠ 42 := by omega
      simp [writes, dsts, this])
     show Bw _ _ _ _ a'.defers .returning W6
     rw [hdef]
     refine Nk (hs := w.heap.size) (D := W'.heap.size) (v := v') (at_ 2 (by omega)) (at_ 3 (by omega)) (at_ 4 (by omega)) (at_ 5 (by omega)) hr6.hides ((hr6.kept.same _ hD).trans hD5) (hr6.kept.hid _ hD) q1 rfl q2 q3 q4 fun v'' W7 hg7 hh7 hsm => ?_
     have hgv : Grew w v'' := (hV.grew.then_own q5 fun b hb => by omega).trans hg7
     have hP : B6 t = .ok (p, st.steps) := by unfold B6; rw [if_neg hsmall, hgo]; simp only [Ap, hp]
     refine ⟨v'', hh7, ⟨fun b hb => hgv.heap hb, fun b hb => ?_, hgv.size⟩, _, rfl, ?_, hgv⟩
     ·have h1 := hV.grew.heap hb
      have h2 := hr6.kept.hid _ h1
      exact (hsm b (by have := Cx hb; omega) h2).trans ((hr6.kept.same _ h1).trans (hs5 b hb))
     ·rw [hP]
      have ho := hV.rd.ops
      rw [hp] at ho
      have nS : ∀ {b : Nat}, (b = w.heap.size ∨ b = w.heap.size + 1 ∨ b = w.heap.size + 2 ∨ b = w.heap.size + 3) → ¬ Blk xr.o.1 b ∧ ¬ Blk xr.s.1 b := fun hb => by
       rcases hb with rfl | rfl | rfl | rfl
       ·exact ⟨Ax hV.rd.ops hV.rP (by decide), Ax hV.rd.steps hV.rP (by decide)⟩
       ·exact ⟨Ax hV.rd.ops hV.rS (by decide), Ax hV.rd.steps hV.rS (by decide)⟩
       ·exact ⟨Ax hV.rd.ops hV.rA (by decide), Ax hV.rd.steps hV.rA (by decide)⟩
       ·exact ⟨Ax hV.rd.ops hV.rE (by decide), Ax hV.rd.steps hV.rE (by decide)⟩
      exact ⟨xr.o, xr.s, rfl, (ho.upd q5 fun b hb h => (nS h).1 hb).grew hg7, (hV.rd.steps.upd q5 fun b hb h => (nS h).2 hb).grew hg7⟩
  ·obtain ⟨e, i, v, rfl, hgo, hh, hD, hDh, q1, q2, q3, q4, hgr, hs⟩ := hX
   refine .inr ⟨_, rfl, .inr ⟨_, rfl⟩, .inr ⟨by simp, ?_⟩⟩
   refine Iq (hs := w.heap.size) (D := W'.heap.size) (v := v) rfl rfl rfl rfl hh hD hDh q1 rfl q2 q3 q4 fun v' W'' hu hh' hsm => ?_
   have hgv := hgr.then_own hu fun b hb => by omega
   have hP : B6 t = .error (e, i) := by unfold B6; rw [if_neg hsmall, hgo]
   refine ⟨v', hh', ⟨fun b hb => hgv.heap hb, fun b hb => (hsm b (by have := Cx hb; omega) (hgr.heap hb)).trans (hs b hb), hgv.size⟩, _, rfl, ?_, hgv⟩
   rw [hP]; rfl
end Go.Proofs.YtbmmaibbiahkkaaGreatDoor
