/- Bytes out of a constant text, and what is put behind them. Conditions: none. -/
import Derived.Test.YtbmmaibbiahkkaaGreatDoorSxSd
import Derived.Test.YtbmmaibbiahkkaaGreatDoorSxM
import Derived.Test.YtbmmaibbiahkkaaGreatDoorSxO
namespace Go.Sx
variable {P : Program}
theorem Jv {w : World} {b o : Nat} {C : Array Value} {e : TypeId} (h : w.heap[b]? = some (.cells C e (0, 0))) :
  (w.freeze ⟨b, o, none⟩ 1).heap[b]? = some (.cells C e (o, o + 1)) ∧ ∀ k, k ≠ b → (w.freeze ⟨b, o, none⟩ 1).heap[k]? = w.heap[k]? := by
 unfold World.freeze
 rw [if_neg (by decide)]
 refine ⟨?_, fun k hk => ?_⟩
 ·simp only [Array.getElem?_modify, h]; simp
 ·simp only [Array.getElem?_modify]; rw [if_neg (fun e => hk e.symm)]
theorem He (w : World) (a : Addr) : (w.freeze a 1).os = w.os ∧ (w.freeze a 1).tape = w.tape ∧ (w.freeze a 1).drawn = w.drawn ∧ (w.freeze a 1).output = w.output ∧ (w.freeze a 1).heap.size = w.heap.size := by
 unfold World.freeze
 rw [if_neg (by decide)]
 exact ⟨rfl, rfl, rfl, rfl, by simp⟩
theorem Nb {t e : TypeId} {w : World} {b n c : Nat} {C : Array Value} {k : Value → World → Prop} (ht : P.underlying t = some (.slice e)) (he : P.underlying e = some (.int .u8)) (hb : w.heap[b]? = some (.cells C e (0, 0)))
  (hk : ∀ w', w'.heap[b]? = some (.cells C e (C.size, C.size + 1)) → Upd (fun k => k = b) w w' → k (.slice (some ⟨b, 0, none⟩) n c) w') : SemW P (convert t t (.slice (some ⟨b, 0, none⟩) n c)) k w := by
 intro w₀ hw
 have hb0 := hw.at hb (by simp [hole])
 have hsh : w₀.shape? b = some (e, C.size) := by unfold World.shape?; rw [hb0]
 obtain ⟨f1, f2⟩ := Jv (o := C.size) hb
 obtain ⟨g1, g2⟩ := Jv (o := C.size) hb0
 obtain ⟨s1, s2, s3, s4, s5⟩ := He w ⟨b, C.size, none⟩
 obtain ⟨t1, t2, t3, t4, t5⟩ := He w₀ ⟨b, C.size, none⟩
 refine ⟨.slice (some ⟨b, 0, none⟩) n c, w₀.freeze ⟨b, C.size, none⟩ 1, w.freeze ⟨b, C.size, none⟩ 1, ?_, ⟨by rw [s1, t1]; exact hw.os, by rw [s2, t2]; exact hw.tape, by rw [s3, t3]; exact hw.drawn, by rw [s4, t4]; exact hw.output, by rw [s5, t5]; exact hw.size, fun k => ?_⟩, ⟨fun k h => ?_, fun k h => ?_, by rw [s5]; exact Nat.le_refl _⟩, hk _ f1 ⟨s1, s2, s4, by rw [s5]; exact Nat.le_refl _, fun k _ hn => f2 k hn⟩⟩
 ·simp [convert, run_underlying ht, run_underlying he, markStringish, hsh]
 ·by_cases hkb : k = b
  ·subst hkb; left; rw [f1, g1]
  ·rw [f2 k hkb, g2 k hkb]; exact hw.block k
 ·have hkb : k ≠ b := fun e => by subst e; rw [hb] at h; simp [hole] at h
  rw [f2 k hkb]; exact h
 ·have hkb : k ≠ b := fun e => by subst e; rw [hb] at h; simp [hole] at h
  exact g2 k hkb
theorem Hh {t u ty e : TypeId} {w : World} {a : Addr} {n : Nat} {l : List Int} {s : L8} {k : Value → World → Prop}
  (ht : P.underlying t = some (.slice e)) (hu : P.underlying u = some .string) (he : (P.info? e).map (fun i => (i.zero, i.size, i.bytes)) = some (some (.int .u8 0), 1, 1))
  (hn : n = l.length) (hcell : ∀ j v, (l.flatMap (Enc.int .u8).f)[j]? = some v → w.cell? (a.add j) = some v) (hs : s ≠ []) (hby : l.length + s.length ≤ 140737488355328)
  (hk : ∀ b c' w', w.heap.size ≤ b → Own w' b e (Enc.int .u8) (some ⟨b, 0, none⟩) (n + s.length) c' (l ++ ints s) → Grew w w' → k (.slice (some ⟨b, 0, none⟩) (n + s.length) c') w') :
  SemW P (Builtin.append_ #[t, u] ty #[.slice (some a) n n, .string (bs s)]) k w := by
 obtain ⟨i, hi, hz, hsz, hb⟩ := info_parts he
 have hsl : 0 < s.length := List.length_pos_iff.2 hs
 refine SemW.of_run none (by simp) fun w₀ hw => ?_
 have hlo : (l.flatMap (Enc.int .u8).f).length = n * i.size := by rw [A1, hsz, hn]; simp [Enc.int]
 have hrun := Lib.run_append_grow_string (P := P) w₀ t u ty e i _ ht hu hi hz a n n (l.flatMap (Enc.int .u8).f) hlo (fun j v hj => (hw.cell (hcell j v hj)).1) (bs s) (by simp; omega) (by simp; omega) (growslice_fits (by simp; omega) (by rw [hb]; simp; omega))
 rw [show (bs s).size = s.length by simp] at hrun
 have hge := grownCap_ge w₀ (n + s.length) n e
 refine ⟨_, _, hrun, ⟨rfl, rfl, rfl, by simp, fun j hj _ => heap_alloc_old w₀.drew _ hj⟩, fun hg => hk _ _ _ (by rw [hw.size]; exact Nat.le_refl _) ?_ ⟨hg.os, hg.tape, hg.output, hg.size, fun b hb => hg.block b hb (by simp)⟩⟩
 have hzl : ∀ q, (Builtin.zeroCells (Value.int .u8 0).cells q).size = q := fun q => by rw [← Array.length_toList, H9 (E := Enc.int .u8) (x := (0 : Int)) rfl, A1]; simp [Enc.int]
 refine Own.mk' (by simp [hn]) (Nat.le_refl _) (cur := (l.flatMap (Enc.int .u8).f).toArray ++ (Lib.strCells (bs s)).toArray ++ Builtin.zeroCells (Value.int .u8 0).cells (grownCap w₀ (n + s.length) n e - (n + s.length))) ?_ hge (grownCap_le_maxLen _ _ _ _ (by simp only [maxLen]; omega)) ?_ ?_
 ·rw [A2 (by intro he; have := lt_of_heap he; have := hw.size; omega)]
  exact heap_alloc_new w₀.drew _
 ·rw [Dn]
  simp only [Array.size_append, List.size_toArray, hzl, A1]
  simp [Enc.int]; omega
 ·rw [Dn]
  simp only [Array.toList_append, List.flatMap_append]
  rw [List.take_left' (by rw [List.length_append, A1, A1]; simp [Enc.int, hn])]
end Go.Sx
