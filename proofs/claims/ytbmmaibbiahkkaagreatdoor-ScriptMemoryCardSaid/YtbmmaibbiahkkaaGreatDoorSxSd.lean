/- Texts in memory: strings as lists of bytes, appended, turned to slices; contracts of the library met as contracts here. Conditions: none. -/
import Derived.Test.YtbmmaibbiahkkaaGreatDoorSxM
import Derived.Test.YtbmmaibbiahkkaaGreatDoorSxP
import Derived.Test.YtbmmaibbiahkkaaGreatDoorSxZ
import Derived.Test.YtbmmaibbiahkkaaGreatDoorSxSa
import Derived.Lib.AppendStr
import Derived.Lib.ConvBytes
import Derived.Lib.Strings
import Derived.Laws.Concat
import Derived.Sort.Grow
import Derived.Deep.Draws
namespace Go.Sx
set_option linter.unusedVariables false
set_option linter.unusedSimpArgs false
open Go.RowKit
section
variable {P : Program}
def bs (l : L8) : ByteArray := ⟨l.toArray⟩
theorem J2 (s : ByteArray) : bs s.data.toList = s := by simp [bs]
@[simp] theorem A8 (l : L8) : (bs l).data.toList = l := by simp [bs]
@[simp] theorem A1 (l : L8) : (bs l).size = l.length := by simp [bs, ByteArray.size]
theorem Qb {a b : L8} : bs a = bs b ↔ a = b := ⟨fun h => by have := congrArg (fun s => s.data.toList) h; simpa using this, fun h => by rw [h]⟩
theorem Qn (s : ByteArray) : ∃ l, s = bs l := ⟨_, (J2 s).symm⟩
theorem P3 {s t : ByteArray} (h : s.data.toList = t.data.toList) : s = t := by rw [← J2 s, ← J2 t, h]
theorem J4 (l : L8) (i j : Nat) : (bs l).extract i j = bs ((l.take j).drop i) := by
 apply P3
 rw [Lib.extract_data, A8, A8, List.drop_take]
theorem N4 (l : L8) (i : Nat) : (bs l).data[i]? = l[i]? := by simp [bs]
theorem N5 (a b : L8) : (bs a == bs b) = decide (a = b) := by
 rw [beq_toListBytes]
 have h1 : ∀ l : L8, (bs l).toList = l := fun l => by rw [ByteArray.toList_eq]; simp
 rw [h1, h1]
 by_cases h : a = b
 ·subst h; simp
 ·rw [decide_eq_false h]; simpa using h
theorem Qc (a b : L8) : bs a ++ bs b = bs (a ++ b) := by
 apply P3
 rw [ByteArray.data_append]; simp
theorem Ha {t : TypeId} {x y : Operand} {a b : L8} : Am P (eqS .eql t x y (.string (bs a)) (.string (bs b))) (.bool (decide (a = b))) := by
 rw [← N5]; exact Pi
theorem P4 {t : TypeId} {x y : Operand} {a b : L8} : Am P (eqS .neq t x y (.string (bs a)) (.string (bs b))) (.bool (!decide (a = b))) := by
 rw [← N5]; exact Mz
theorem E2 {t : TypeId} {x y : Operand} {a b : L8} (h : a.length + b.length ≤ 9223372036854775807) : Am P (eqS .add t x y (.string (bs a)) (.string (bs b))) (.string (bs (a ++ b))) := by
 intro w
 show ((do eqGuard .add t x y _ _; binOp .add t (.string (bs a)) (.string (bs b)) : Sem Value).run P w) = _
 have e : eqGuard .add t x y (.string (bs a)) (.string (bs b)) = pure () := rfl
 simp only [e, pure_bind, binOp]
 rw [run_string_add_sum _ _ _ (by simpa using h), Qc]
def ints (l : L8) : List Int := l.map fun c => (c.toNat : Int)
@[simp] theorem Qo (l : L8) : (ints l).length = l.length := by simp [ints]
theorem N6 (a b : L8) : ints (a ++ b) = ints a ++ ints b := by simp [ints]
theorem Ih {l : L8} {i : Nat} {x : Int} (h : (ints l)[i]? = some x) : ∃ c, l[i]? = some c ∧ x = c.toNat := by
 unfold ints at h
 rw [List.getElem?_map] at h
 cases hc : l[i]? with
 | none => rw [hc] at h; cases h
 | some c => rw [hc] at h; cases h; exact ⟨c, rfl, rfl⟩
theorem Jh (l : L8) : strB (ints l) = bs l := by
 unfold strB strOfNums bs ints
 congr 1
 simp [List.map_map, Function.comp_def]
theorem I2 (l : L8) : Lib.strCells (bs l) = (ints l).flatMap (Enc.int .u8).f := by
 rw [Kv]
 simp [Lib.strCells, ints, bs, List.map_map, Function.comp_def]
theorem Lw {t u ty e : TypeId} {B : Nat} {w : World} {a : Option Addr} {n c : Nat} {l : List Int} {s : L8} {k : Value → World → Prop}
  (ht : P.underlying t = some (.slice e)) (hu : P.underlying u = some .string) (he : (P.info? e).map (fun i => (i.zero, i.size, i.bytes)) = some (some (.int .u8 0), 1, 1))
  (ho : Own w B e (Enc.int .u8) a n c l) (hB : B ≤ w.heap.size) (hby : l.length + s.length ≤ 140737488355328) (hk : ∀ v w', Onto w B e (Enc.int .u8) a (l ++ ints s) v w' → k v w') :
  SemW P (Builtin.append_ #[t, u] ty #[.slice a n c, .string (bs s)]) k w := by
 obtain ⟨i, hi, hz, hsz, hb⟩ := info_parts he
 have hn := ho.1
 have h63 : l.length + s.length ≤ maxLen := by simp only [maxLen]; omega
 have hvis : ∀ b, Value.ownBlock (.slice a n c) = some b → B ≤ b ∧ b < w.heap.size ∧ w.heap[b]? ≠ some hole := by
  intro b hb
  rcases ho.out with ⟨rfl, -, -, -⟩ | ⟨g, cur, rfl, hbg, hgg, -⟩
  ·cases hb
  ·simp only [Value.ownBlock, Option.some.injEq] at hb; subst hb
   exact ⟨hbg, lt_of_heap hgg, by rw [hgg]; simp [hole]⟩
 refine SemW.of_run (Value.ownBlock (.slice a n c)) (fun b hb => (hvis b hb).2.2) fun w₀ hw => ?_
 have ho₀ := Bd hw ho.2
 have e1 : (l.flatMap (Enc.int .u8).f ++ Lib.strCells (bs s)) = (l ++ ints s).flatMap (Enc.int .u8).f := by rw [I2, List.flatMap_append]
 obtain ⟨v', w', h1, h2, h3, h4⟩ := Lib.run_append_own_string (P := P) w₀ B t u ty e i ht hu hi hz hsz hb (.slice a n c) n (l.flatMap (Enc.int .u8).f) ho₀ (bs s) (by simpa [hn] using h63) (by simpa [hn] using hby) (by rw [← hw.size]; exact hB)
 have hrun : ∀ (g c' : Nat), v' = .slice (some ⟨g, 0, none⟩) (n + s.length) c' → w.heap.size ≤ g ∨ ∃ d, a = some d ∧ d.block = g := by
  intro g c' hv
  subst hv
  rcases ho.out with ⟨rfl, rfl, rfl, rfl⟩ | ⟨g0, cur, rfl, hb0, hg0, hn0, h10, h20, h30, h40⟩
  ·left
   obtain ⟨v2, w2, k1, k2, -, -⟩ := Lib.run_append_own_string (P := P) w₀ w₀.heap.size t u ty e i ht hu hi hz hsz hb (.slice none 0 0) 0 [] (World.ownsRow_nil _ _ _ _) (bs s) (by simpa using h63) (by simpa using hby) (Nat.le_refl _)
   rw [h1] at k1
   injection k1 with k1 _
   subst k1
   rcases k2.2 with ⟨e1, -⟩ | ⟨g', cap, cur, e1, e2, -⟩
   ·cases e1
   ·simp only [Value.slice.injEq, Option.some.injEq, Addr.mk.injEq] at e1
    obtain ⟨⟨rfl, -⟩, -⟩ := e1
    rw [hw.size]; exact e2
  ·have hg0' := hw.at hg0 (by simp [hole])
   by_cases hroom : n + s.length ≤ c
   ·right
    have hr := Lib.run_append_room_string (P := P) w₀ t u ty e i ht hu hi hsz g0 n c cur hg0' (bs s) (by simpa using hroom) (by rw [h30]; simp [Enc.int]; omega)
    rw [h1] at hr
    injection hr with hr _
    simp only [Value.slice.injEq, Option.some.injEq, Addr.mk.injEq] at hr
    exact ⟨_, rfl, hr.1.1.symm⟩
   ·left
    have hr := Lib.run_append_grow_string (P := P) w₀ t u ty e i _ ht hu hi hz ⟨g0, 0, none⟩ n c (l.flatMap (Enc.int .u8).f) (by rw [Bc, hsz, hn]; simp [Enc.int]) (World.ownsRow.cells ho₀ rfl) (bs s) (by simp; omega) (by simp [maxLen] at *; omega) (growslice_fits (by simp; omega) (by rw [hb]; simp; omega))
    rw [h1] at hr
    injection hr with hr _
    simp only [Value.slice.injEq, Option.some.injEq, Addr.mk.injEq] at hr
    rw [hr.1.1, hw.size]; exact Nat.le_refl _
 refine ⟨v', w', h1, h3, fun hg => ?_⟩
 rw [e1] at h2
 rw [show n + (bs s).size = (l ++ ints s).length from by simp [hn]] at h2
 have hhid : ∀ b, w.heap.size ≤ b ∨ (∃ d, a = some d ∧ d.block = b) → w.heap[b]? ≠ some hole := by
  intro b hb
  rcases hb with hb | ⟨d, rfl, rfl⟩
  ·rw [Array.getElem?_eq_none hb]; simp
  ·rcases ho.out with ⟨h, -⟩ | ⟨g, cur, hd, hbg, hgg, -⟩
   ·cases h
   ·cases hd; rw [hgg]; simp [hole]
 rcases h2.2 with ⟨rfl, h0⟩ | ⟨g, cap, cur, rfl, k1, k2, k3, k4, k5, k6⟩
 ·have h0' : l ++ ints s = [] := List.eq_nil_of_length_eq_zero h0
  refine hk _ _ ⟨none, 0, 0, rfl, by rw [h0']; exact Own.nil _ _ _ _, ⟨hg.os, hg.tape, hg.output, hg.size, fun b hb hn => hg.block b hb fun e => ?_⟩, fun b hb => (Blk.none hb).elim⟩
  cases a with
  | none => cases e
  | some d =>
   rcases ho.out with ⟨h, -⟩ | ⟨g, cur, hd, -⟩
   ·cases h
   ·cases hd; cases e; exact hn ⟨_, rfl, rfl⟩
 ·have hgb := hrun g cap (by simp [hn])
  refine hk _ _ ⟨some ⟨g, 0, none⟩, _, cap, rfl, Own.mk' rfl k1 (by rw [A0 (hhid g hgb)]; exact k2) k3 k4 k5 k6, ⟨hg.os, hg.tape, hg.output, hg.size, fun b hb hn => hg.block b hb fun e => ?_⟩, fun b hb => ?_⟩
  ·cases a with
   | none => cases e
   | some d =>
    rcases ho.out with ⟨h, -⟩ | ⟨g, cur, hd, -⟩
    ·cases h
    ·cases hd; cases e; exact hn ⟨_, rfl, rfl⟩
  ·obtain ⟨d, hd, rfl⟩ := hb
   cases hd
   rcases hgb with h | h
   ·exact .inr h
   ·exact .inl h
theorem M3 {src dst e : TypeId} {w : World} {s : L8} {k : Value → World → Prop} (hs : P.underlying src = some .string) (hd : P.underlying dst = some (.slice e)) (he : P.underlying e = some (.int .u8))
  (hk : ∀ a c w', Reads w' (Enc.int .u8) (a, s.length, c) (ints s) → Grew w w' → k (.slice a s.length c) w') : SemW P (convert src dst (.string (bs s))) k w := by
 intro w₀ hw
 have hrun := Lib.run_convert_string_bytes (P := P) w₀ src dst e (bs s) hs hd he
 obtain ⟨w₁, hw₁⟩ : ∃ w₁, Lib.bytesWorld w₀ e (bs s) = w₁ := ⟨_, rfl⟩
 have hold := fun j hj => Lib.bytesWorld_at_old w₀ e (bs s) j hj
 have hnew := Lib.bytesWorld_at_new w₀ e (bs s)
 have hcell := fun j hj => Lib.bytesWorld_cell w₀ e (bs s) j hj
 have hsz := Lib.bytesWorld_size w₀ e (bs s)
 have hos : (Lib.bytesWorld w₀ e (bs s)).os = w₀.os ∧ (Lib.bytesWorld w₀ e (bs s)).tape = w₀.tape ∧ (Lib.bytesWorld w₀ e (bs s)).output = w₀.output := ⟨rfl, rfl, rfl⟩
 rw [hw₁] at hrun hold hnew hcell hsz hos
 have hle : w.heap.size ≤ w₁.heap.size := by rw [hsz, hw.size]; omega
 refine ⟨_, _, A6 w w₁, hrun, Cv hle, Dd hle (fun b hb => hold b (by rw [← hw.size]; exact lt_of_heap hb)), ?_⟩
 have hc : s.length ≤ grownCap w₀ (bs s).size 0 e := by
  have := grownCap_ge w₀ (bs s).size 0 e
  simpa using this
 have hg : Grew w (A6 w w₁) := by
  refine ⟨?_, ?_, ?_, by simp [A6]; exact hle, fun b hlt => ?_⟩
  ·show w₁.os = w.os; rw [hos.1, hw.os]
  ·show w₁.tape = w.tape; rw [hos.2.1, hw.tape]
  ·show w₁.output = w.output; rw [hos.2.2, hw.output]
  ·by_cases hh : w.heap[b]? = some hole
   ·rw [Bi hh hle, hh]
   ·rw [A0 hh, hold b (by rw [← hw.size]; exact hlt)]
    rcases hw.block b with e | e
    ·exact e.symm
    ·exact absurd e hh
 rw [show (bs s).size = s.length from A1 s]
 refine hk _ _ _ ⟨fun i x hx => ?_, by simp, fun h => (by cases h), by simpa using hc⟩ hg
 obtain ⟨c, hcc, rfl⟩ := Ih hx
 have hi : i < s.length := (List.getElem?_eq_some_iff.1 hcc).1
 refine ⟨_, rfl, ?_⟩
 have hn : w.heap[w₀.heap.size]? ≠ some hole := by
  rw [← hw.size, Array.getElem?_eq_none (Nat.le_refl _)]; simp
 have := hcell i (by simpa using hi)
 have e2 : (bs s).data.toList.getD i 0 = c := by simp [List.getD, hcc]
 rw [e2] at this
 simp only [Enc.int, Ah, and_true, Bj, Nat.mul_one, Nat.zero_add, Nat.add_zero]
 unfold World.cell? at this ⊢
 rw [A0 hn]
 exact this
theorem Aa.of_pred {f : FuncId} {args : List Value} {w : World} {Q : Value → Prop} (hE : Enters P f) (h : ∀ w₀, Ae w w₀ → Calls P f args.toArray w₀ fun e w' => (∃ v, e = .returned v ∧ Q v) ∧ Below w₀.heap.size w₀ w') :
  Aa P f args w (Rets fun u w' => Q u ∧ Grew w w') :=
 Aa.of_calls hE fun w₀ hw => (h w₀ hw).mono fun e w' ⟨⟨v, he, hv⟩, hb⟩ => ⟨hb, fun hg => ⟨v, he, hv, hg⟩⟩
theorem Aa.of_val {f : FuncId} {args : List Value} {w : World} {v : Value} (hE : Enters P f) (h : ∀ w₀, Ae w w₀ → Calls P f args.toArray w₀ fun e w' => e = .returned v ∧ Below w₀.heap.size w₀ w') :
  Aa P f args w (Rets fun u w' => u = v ∧ Grew w w') :=
 Aa.of_pred hE fun w₀ hw => (h w₀ hw).mono fun e w' ⟨he, hb⟩ => ⟨⟨v, he, rfl⟩, hb⟩
theorem Hb (w : World) (n : Nat) (os : Array Obj) : Below w.heap.size w (Sort.grow (w.drewN n) os) where
 os := rfl
 tape := rfl
 output := rfl
 size := by simp [Sort.grow, World.drewN]
 block := fun k hk => by
  simp only [Sort.grow, World.drewN]
  rw [Array.getElem?_append_left hk]
theorem M4 {w w₀ : World} (h : Ae w w₀) {n : String} {cs : Array Value} (hv : w.var? P n = some cs) : w₀.var? P n = some cs := by
 unfold World.var? at hv ⊢
 cases hg : P.globalNamed n with
 | none => simp [hg] at hv
 | some g =>
  simp only [hg, Option.bind_some] at hv ⊢
  rcases h.block g with e | e
  ·rw [← e]; exact hv
  ·rw [e] at hv; simp [hole] at hv
theorem N7 {w w' : World} (h : Grew w w') {n : String} {cs : Array Value} (hv : w.var? P n = some cs) : w'.var? P n = some cs := by
 unfold World.var? at hv ⊢
 cases hg : P.globalNamed n with
 | none => simp [hg] at hv
 | some g =>
  simp only [hg, Option.bind_some] at hv ⊢
  have hlt : g < w.heap.size := by
   rcases Nat.lt_or_ge g w.heap.size with h' | h'
   ·exact h'
   ·simp [Array.getElem?_eq_none h'] at hv
  rw [h.block g hlt]; exact hv
end
end Go.Sx
