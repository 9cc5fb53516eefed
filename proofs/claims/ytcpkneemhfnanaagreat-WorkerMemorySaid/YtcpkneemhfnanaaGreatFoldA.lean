/- What adding two tables hands back, in the program. Conditions: none. -/
import Derived.Test.YtcpkneemhfnanaaGreatProg
import Derived.Test.YtcpkneemhfnanaaGreatFold
namespace Go.Proofs.YtcpkneemhfnanaaGreat
open Go.Sx
set_option maxRecDepth 100000
set_option linter.unusedVariables false
set_option linter.unusedSimpArgs false
/-- the map under way -/
structure AddSt (w : World) (mb b16 : Nat) (cs : List Value) (kind : Int) (ab : List PairV) (off : Nat) (w' : World) : Prop where
  map : MapIs w' mb .u64 ValV.v (addT kind [] (ab.take off))
  fits : TabFits (addT kind [] (ab.take off))
  len : (addT kind [] (ab.take off)).length ≤ off
  grew : Grew w w'
  row : Row w' b16 46 cs
theorem addT_snoc {kind : Int} {m : Tab} {l : List PairV} {p : PairV} : addT kind m (l ++ [p]) = putT kind (addT kind m l) p.key p.val := by unfold addT; rw [List.foldl_append]; rfl

set_option maxHeartbeats 1000000 in
theorem Add_ok {a b : Option Addr} {n c m k : Nat} {l r : List PairV} {kind : Int} {w : World} (hr : Reads w Enc.pair (a, n, c) l) (hl : ∀ x ∈ l, x.Fits) (hll : l.length ≤ maxLen) (hi : Reads w Enc.pair (b, m, k) r) (hf : ∀ x ∈ r, x.Fits) (hrl : r.length ≤ maxLen) (hs : (l.length + r.length) * 24 ≤ 140737488355328) :
    CallsW Tryz.prog 31 [.int .i64 kind, .slice a n c, .slice b m k] w (Rets fun u w' => ∃ a' n' c', u = .tuple #[.slice a' n' c', .int .i64 (if knownB kind then if soundB l ∧ soundB r then 0 else 7 else 1)] ∧ Own w' w.heap.size 83 Enc.pair a' n' c' (if knownB kind ∧ soundB l ∧ soundB r then tableT (addT kind [] (l ++ r)) else []) ∧ Grew w w') := by
  refine sx31.ok ?_
  unfold sx31
  have hn : n = l.length := hr.2.1
  have hm : m = r.length := hi.2.1
  subst hn; subst hm
  have nb : ∀ {x y : World}, SameB x y [] := by intro x y; simp [SameB]
  refine Known_ok.use fun u w1 ⟨hv, hw⟩ => ?_
  subst hv; subst hw
  cases hk : knownB kind
  · refine ⟨_, rfl, fun _ => ⟨_, rfl, none, 0, 0, by simp, by simpa using Own.nil _ _ _ _, Grew.refl _⟩, fun h => (by simp at h)⟩
  refine ⟨_, rfl, fun h => (by simp at h), fun _ => (Sound_ok hr hll).use fun u w5 ⟨hv, hg5⟩ => ?_⟩
  subst hv
  cases hsl : soundB l
  · refine ⟨_, rfl, fun _ => ⟨_, rfl, none, 0, 0, by simp, by simpa using Own.nil _ _ _ _, hg5⟩, fun h => (by simp at h)⟩
  refine ⟨_, rfl, fun h => (by simp at h), fun _ => (Sound_ok (hi.grew hg5) hrl).use fun u w9 ⟨hv, hg9⟩ => ?_⟩
  subst hv
  have hg9 := hg5.trans hg9
  cases hsr : soundB r
  · refine ⟨_, rfl, fun _ => ⟨_, rfl, none, 0, 0, by simp, by simpa using Own.nil _ _ _ _, hg9⟩, fun h => (by simp at h)⟩
  refine ⟨_, rfl, fun h => (by simp at h), fun _ => make_map fun mb w13 hal13 => ⟨_, rfl, fun b16 w17 hal17 => ?_⟩⟩
  have hg13 := hg9.trans hal13.grew
  have hg17 := hg13.trans hal17.grew
  have hmb : w1.heap.size ≤ mb := Nat.le_trans hg9.size hal13.new
  have hM17 := (MapIs.empty (q := .u64) (F := ValV.v) hal13).grew hal17.grew
  have hne : b16 ≠ mb := by have := hal17.new; have := (MapIs.empty (q := .u64) (F := ValV.v) hal13).lt; omega
  have hrow17 : Row w17 b16 46 [.slice a l.length c, .slice b r.length k] := by simpa [Row] using hal17.at_
  generalize hcs : [Value.slice a l.length c, Value.slice b r.length k] = cs at hrow17
  have inner : ∀ (lk : List PairV) (a21 : Option Addr) (c21 off : Nat) (w20 : World) (Q : World → Prop), Reads w1 Enc.pair (a21, lk.length, c21) lk → (∀ x ∈ lk, x.Fits) → lk.length ≤ 9223372036854775806 → (∀ j, j < lk.length → (l ++ r)[off + j]? = lk[j]?) → AddSt w1 mb b16 cs kind (l ++ r) off w20 → (∀ w24, AddSt w1 mb b16 cs kind (l ++ r) (off + lk.length) w24 → Q w24) →
      ∃ (I22 : Int → World → Prop) (m22 : Int → World → Nat), I22 0 w20 ∧ ∀ (n23 : Int) (w24 : World), I22 n23 w24 → (((decide (n23 < ((lk.length : Nat) : Int))) = true → withSome a21 (fun d25 => (0 ≤ n23 ∧ n23 < (lk.length : Nat)) ∧ ∃ (n26 :
      Int) (b27 : Bool) (n28 : Int), CellsAt w24 (Addr.add d25 (n23.toNat * 3)) 0 [.int .u64 n26, .bool b27, .int .u64 n28] ∧ ∀ w29, Grew w24 w29 → ∀ w30, Grew w29 w30 → SemW Tryz.prog (Instr.lookup 150 (.map (some mb)) (.int .u64
      n26) false) (fun u32 w31 => ∃ (b33 : Bool) (n34 : Int), u32 = .agg #[.bool b33, .int .u64 n34] ∧ SameB w30 w31 [] ∧ CallsW Tryz.prog 67 [.int .i64 kind, .agg #[.bool b33, .int .u64 n34], .agg #[.bool b27, .int .u64
      n28]] w31 (RetR (Rets fun u w' => ∃ a' n' c', u = .tuple #[.slice a' n' c', .int .i64 (if (true = true) then if (true = true ∧ true = true) then 0 else 7 else 1)] ∧ Own w' w1.heap.size 83 Enc.pair a' n' c' (if (true = true ∧ true = true ∧ true = true) then tableT (addT kind [] (l ++ r)) else []) ∧ Grew w1 w') fun u36 w35 => ∃ (b37 : Bool) (n38 : Int), u36 = .agg #[.bool b37, .int .u64 n38] ∧ SameB w31 w35 [] ∧ SemW Tryz.prog (Instr.mapUpdate 150 (.map (some mb)) (.int .u64 n26) (.agg #[.bool b37, .int .u64 n38]))
      (fun _ w40 => (I22 (IntKind.i64.wrap (n23 + 1)) w40 ∧ m22 (IntKind.i64.wrap (n23 + 1)) w40 < m22 n23 w24)) w35)) w30)) ∧ ((decide (n23 < ((lk.length : Nat) : Int))) = false → Q w24)) := by
    intro lk a21 c21 off w20 Q hrk hfk hlk hat hS hQ
    refine ⟨fun i w' => ∃ j : Nat, i = j ∧ j ≤ lk.length ∧ AddSt w1 mb b16 cs kind (l ++ r) (off + j) w', fun i _ => lk.length - i.toNat, ⟨0, rfl, Nat.zero_le _, hS⟩, ?_⟩
    rintro i w24 ⟨j, rfl, hj, hS24⟩
    refine ⟨fun hlt => ?_, fun hge => ?_⟩
    · simp only [decide_eq_true_eq] at hlt
      obtain ⟨d, p, rfl, hp, hc⟩ := (hrk.grew hS24.grew).at0 (k := j) (by omega)
      obtain ⟨c1, -⟩ := pair_cells hc
      have hpf := hfk p (List.mem_of_getElem? hp)
      have hab : (l ++ r)[off + j]? = some p := by rw [hat j (by omega), hp]
      have hw : IntKind.i64.wrap ((j : Int) + 1) = ((j + 1 : Nat) : Int) := by rw [IntKind.wrap_i64]; omega
      rw [withSome]
      refine ⟨⟨by omega, by omega⟩, _, _, _, c1, fun w29 hg29 w30 hg30 => ?_⟩
      have hg30 := hg29.trans hg30
      have hM30 := hS24.map.grew hg30
      have hzf := getM_fits hS24.fits p.key
      have hvf : p.val.Fits := hpf.2
      refine map_lookupV uGath uU64F zVal hM30 ⟨_, _, rfl, nb, (Merge_ok (kind := kind) (b := p.val) hzf hvf).use fun u w35 ⟨hv, hg35⟩ => ?_⟩
      subst hv
      have hg35 := hg30.trans hg35
      refine ⟨_, _, rfl, nb, map_update (F := ValV.v) (x := mergeV kind ((getM (addT kind [] ((l ++ r).take (off + j))) p.key).getD val0) p.val) uGath uU64F (hS24.map.grew hg35) (key_wf hpf.1) fun w' hm' hu' => ?_⟩
      rw [hw]
      have hnew : addT kind [] ((l ++ r).take (off + (j + 1))) = setM (addT kind [] ((l ++ r).take (off + j))) p.key (mergeV kind ((getM (addT kind [] ((l ++ r).take (off + j))) p.key).getD val0) p.val) := by
        rw [← Nat.add_assoc, take_snoc hab, addT_snoc]; rfl
      refine ⟨⟨j + 1, rfl, by omega, ⟨by rw [hnew]; exact hm', by rw [hnew]; exact setM_fits hS24.fits hpf.1 (mergeV_fits hzf hvf), ?_, (hS24.grew.trans hg35).then_own hu' fun b hb => by rw [hb]; exact hmb, (hS24.row.grew hg35).upd hu' hne⟩⟩, by show lk.length - (((j + 1 : Nat) : Int)).toNat < lk.length - ((j : Int)).toNat; omega⟩
      rw [hnew]
      have h1 := setM_len (m := addT kind [] ((l ++ r).take (off + j))) (k := p.key) (v := mergeV kind ((getM (addT kind [] ((l ++ r).take (off + j))) p.key).getD val0) p.val)
      have h2 := hS24.len
      omega
    · simp only [decide_eq_false_iff_not] at hge
      have hjl : j = lk.length := by omega
      subst hjl
      exact hQ w24 hS24
  simp only [maxLen] at hll hrl
  refine ⟨fun i w' => ∃ q : Nat, i = q ∧ q ≤ 2 ∧ AddSt w1 mb b16 cs kind (l ++ r) (if q = 0 then 0 else if q = 1 then l.length else l.length + r.length) w', fun i _ => 2 - i.toNat, ⟨0, rfl, by omega, ⟨hM17, by intro x hx; simp [addT] at hx, by simp [addT], hg17, hrow17⟩⟩, ?_⟩
  rintro i w20 ⟨q, rfl, hq, hS⟩
  refine ⟨fun hlt => ?_, fun hge => ?_⟩
  · simp only [decide_eq_true_eq] at hlt
    have hw : IntKind.i64.wrap ((q : Int) + 1) = ((q + 1 : Nat) : Int) := by rw [IntKind.wrap_i64]; omega
    rw [hw]
    rcases (show q = 0 ∨ q = 1 by omega) with rfl | rfl
    · refine ⟨⟨by omega, by omega⟩, a, l.length, c, ?_, inner l a c 0 w20 _ hr hl (by omega) (fun j hj => by rw [Nat.zero_add, List.getElem?_append_left hj]) hS fun w24 hS24 => ⟨⟨1, rfl, by omega, by simpa using hS24⟩, by show (1 : Nat) < 2; decide⟩⟩
      rw [add_mk, hS.row.cell, ← hcs]; rfl
    · refine ⟨⟨by omega, by omega⟩, b, r.length, k, ?_, inner r b k l.length w20 _ hi hf (by omega) (fun j hj => by rw [List.getElem?_append_right (by omega), Nat.add_sub_cancel_left]) hS fun w24 hS24 => ⟨⟨2, rfl, by omega, by simpa using hS24⟩, by show (0 : Nat) < 1; decide⟩⟩
      rw [add_mk, hS.row.cell, ← hcs]; rfl
  · simp only [decide_eq_false_iff_not] at hge
    have hq2 : q = 2 := by omega
    subst hq2
    have hmap : MapIs w20 mb .u64 ValV.v (addT kind [] (l ++ r)) := by
      have := hS.map
      simp only [show ¬ (2 : Nat) = 0 from by decide, show ¬ (2 : Nat) = 1 from by decide, if_false] at this
      rwa [List.take_of_length_le (by simp)] at this
    have hlen : (addT kind [] (l ++ r)).length ≤ l.length + r.length := by
      have := hS.len
      simp only [show ¬ (2 : Nat) = 0 from by decide, show ¬ (2 : Nat) = 1 from by decide, if_false] at this
      rwa [List.take_of_length_le (by simp)] at this
    refine (table_ok hmap (by omega)).use fun u w41 ⟨a43, l43, c43, hv, ho, hg⟩ => ?_
    subst hv
    refine ⟨_, _, _, rfl, _, rfl, a43, l43, c43, by simp, ?_, hS.grew.trans hg⟩
    have := ho.base hS.grew.size
    simpa using this
end Go.Proofs.YtcpkneemhfnanaaGreat
