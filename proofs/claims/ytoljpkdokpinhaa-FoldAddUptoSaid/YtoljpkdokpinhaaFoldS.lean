/- What adding two tables hands back, in the reference. Conditions: none. -/
import Derived.Test.YtoljpkdokpinhaaProg
import Derived.Test.YtoljpkdokpinhaaFoldR
import Derived.Test.YtoljpkdokpinhaaSxVb
namespace Go.Proofs.Ytoljpkdokpinhaa
open Go.Sx
set_option maxRecDepth 100000
set_option linter.unusedVariables false
set_option linter.unusedSimpArgs false
/- reprise/repriseref05.Add -/
def sx14 (d : Int) (i : Option Addr) (i_n i_c : Nat) (p2 : Option Addr) (p2_n p2_c : Nat) (R : Ending → World → Prop) (w : World) : Prop :=
  CallsW Try.prog 31 [.int .i64 d] w (RetR R fun u2 w1 => ∃ (b3 : Bool), u2 = .bool b3 ∧ (((!b3) = true → R (.returned (.tuple #[.slice none 0 0, .int .i64 1])) w1) ∧ ((!b3) = false → CallsW Try.prog 12 [.slice i i_n i_c]
    w1 (RetR R fun u6 w5 => ∃ (b7 : Bool), u6 = .bool b7 ∧ (((!b7) = true → R (.returned (.tuple #[.slice none 0 0, .int .i64 7])) w5) ∧ ((!b7) = false → CallsW Try.prog 12 [.slice p2 p2_n p2_c] w5 (RetR R fun u10 w9 => ∃
    (b11 : Bool), u10 = .bool b11 ∧ (((!b11) = true → R (.returned (.tuple #[.slice none 0 0, .int .i64 7])) w9) ∧ ((!b11) = false → ∀ (b13 : Nat) (w14 : World), Alloc w9 w14 b13 (.cells #[] 38) → ∃ (I15 : Option Addr →
    Nat → Nat → Int → Int → World → Prop) (m15 : Option Addr → Nat → Nat → Int → Int → World → Nat), I15 (some ⟨b13, 0, none⟩) 0 0 0 0 w14 ∧ ∀ (a16 : Option Addr) (l16 c16 : Nat) (n17 : Int) (n18 : Int) (w19 : World), I15
    a16 l16 c16 n17 n18 w19 → ∃ (J20 : World → Prop), ((((decide (n17 < ((i_n : Nat) : Int))) = true → J20 w19) ∧ ((decide (n17 < ((i_n : Nat) : Int))) = false → (((decide (n18 < ((p2_n : Nat) : Int))) = true → J20 w19) ∧
    ((decide (n18 < ((p2_n : Nat) : Int))) = false → R (.returned (.tuple #[.slice a16 l16 c16, .int .i64 0])) w19))))) ∧ ∀  (w21 : World), J20 w21 → ∃ (J22 : Bool → World → Prop), ((((n18 == ((p2_n : Nat) : Int)) = true
    → ∀ w23, Grew w21 w23 → J22 true w23) ∧ ((n18 == ((p2_n : Nat) : Int)) = false → (((decide (n17 < ((i_n : Nat) : Int))) = true → withSome i (fun d24 => (0 ≤ n17 ∧ n17 < (i_n : Nat)) ∧ ∃ (n25 : Int), w21.cell?
    (Addr.add d24 (n17.toNat * 3)) = some (.int .u64 n25) ∧ withSome p2 (fun d26 => (0 ≤ n18 ∧ n18 < (p2_n : Nat)) ∧ ∃ (n27 : Int), w21.cell? (Addr.add d26 (n18.toNat * 3)) = some (.int .u64 n27) ∧ ∀ w28, Grew w21 w28 →
    J22 (decide (n25 < n27)) w28))) ∧ ((decide (n17 < ((i_n : Nat) : Int))) = false → ∀ w29, Grew w21 w29 → J22 false w29))))) ∧ ∀ (b30 : Bool) (w31 : World), J22 b30 w31 → ((b30 = true → ∀ w32, Grew w31 w32 → withSome i
    (fun d33 => (0 ≤ n17 ∧ n17 < (i_n : Nat)) ∧ ∃ (n34 : Int), w32.cell? (Addr.add d33 (n17.toNat * 3)) = some (.int .u64 n34) ∧ withSome i (fun d35 => (0 ≤ n17 ∧ n17 < (i_n : Nat)) ∧ ∃ (b36 : Bool) (n37 : Int), CellsAt
    w32 (Addr.add (Addr.add d35 (n17.toNat * 3)) 1) 0 [.bool b36, .int .u64 n37] ∧ CallsW Try.prog 32 [.int .i64 d, .agg #[.bool b36, .int .u64 n37]] w32 (RetR R fun u39 w38 => ∃ (b40 : Bool) (n41 : Int), u39 = .agg
    #[.bool b40, .int .u64 n41] ∧ SameB w32 w38 [(Addr.add (Addr.add d35 (n17.toNat * 3)) 1), (Addr.add d33 (n17.toNat * 3))] ∧ ∀ (b43 : Nat) (w44 : World), Alloc w38 w44 b43 (.cells #[.int .u64 n34, .bool b40, .int .u64
    n41] 38) → SemW Try.prog (Builtin.append_ #[22, 22] 22 #[.slice a16 l16 c16, .slice (some ⟨b43, 0, none⟩) 1 1]) (fun u46 w45 => ∃ (a47 : Option Addr) (l47 c47 : Nat), u46 = .slice a47 l47 c47 ∧ (I15 a47 l47 c47
    (IntKind.i64.wrap (n17 + 1)) n18 w45 ∧ m15 a47 l47 c47 (IntKind.i64.wrap (n17 + 1)) n18 w45 < m15 a16 l16 c16 n17 n18 w19)) w44)))) ∧ (b30 = false → ∃ (J48 : Bool → World → Prop), ((((n17 == ((i_n : Nat) : Int)) =
    true → ∀ w49, Grew w31 w49 → J48 true w49) ∧ ((n17 == ((i_n : Nat) : Int)) = false → withSome p2 (fun d50 => (0 ≤ n18 ∧ n18 < (p2_n : Nat)) ∧ ∃ (n51 : Int), w31.cell? (Addr.add d50 (n18.toNat * 3)) = some (.int .u64
    n51) ∧ withSome i (fun d52 => (0 ≤ n17 ∧ n17 < (i_n : Nat)) ∧ ∃ (n53 : Int), w31.cell? (Addr.add d52 (n17.toNat * 3)) = some (.int .u64 n53) ∧ ∀ w54, Grew w31 w54 → J48 (decide (n51 < n53)) w54))))) ∧ ∀ (b55 : Bool)
    (w56 : World), J48 b55 w56 → ((b55 = true → ∀ w57, Grew w56 w57 → withSome p2 (fun d58 => (0 ≤ n18 ∧ n18 < (p2_n : Nat)) ∧ ∃ (n59 : Int), w57.cell? (Addr.add d58 (n18.toNat * 3)) = some (.int .u64 n59) ∧ withSome p2
    (fun d60 => (0 ≤ n18 ∧ n18 < (p2_n : Nat)) ∧ ∃ (b61 : Bool) (n62 : Int), CellsAt w57 (Addr.add (Addr.add d60 (n18.toNat * 3)) 1) 0 [.bool b61, .int .u64 n62] ∧ CallsW Try.prog 32 [.int .i64 d, .agg #[.bool b61, .int
    .u64 n62]] w57 (RetR R fun u64 w63 => ∃ (b65 : Bool) (n66 : Int), u64 = .agg #[.bool b65, .int .u64 n66] ∧ SameB w57 w63 [(Addr.add (Addr.add d60 (n18.toNat * 3)) 1), (Addr.add d58 (n18.toNat * 3))] ∧ ∀ (b68 : Nat)
    (w69 : World), Alloc w63 w69 b68 (.cells #[.int .u64 n59, .bool b65, .int .u64 n66] 38) → SemW Try.prog (Builtin.append_ #[22, 22] 22 #[.slice a16 l16 c16, .slice (some ⟨b68, 0, none⟩) 1 1]) (fun u71 w70 => ∃ (a72 :
    Option Addr) (l72 c72 : Nat), u71 = .slice a72 l72 c72 ∧ (I15 a72 l72 c72 n17 (IntKind.i64.wrap (n18 + 1)) w70 ∧ m15 a72 l72 c72 n17 (IntKind.i64.wrap (n18 + 1)) w70 < m15 a16 l16 c16 n17 n18 w19)) w69)))) ∧ (b55 =
    false → ∀ w73, Grew w56 w73 → withSome i (fun d74 => (0 ≤ n17 ∧ n17 < (i_n : Nat)) ∧ ∃ (n75 : Int), w73.cell? (Addr.add d74 (n17.toNat * 3)) = some (.int .u64 n75) ∧ withSome i (fun d76 => (0 ≤ n17 ∧ n17 < (i_n :
    Nat)) ∧ ∃ (b77 : Bool) (n78 : Int), CellsAt w73 (Addr.add (Addr.add d76 (n17.toNat * 3)) 1) 0 [.bool b77, .int .u64 n78] ∧ withSome p2 (fun d79 => (0 ≤ n18 ∧ n18 < (p2_n : Nat)) ∧ ∃ (b80 : Bool) (n81 : Int), CellsAt
    w73 (Addr.add (Addr.add d79 (n18.toNat * 3)) 1) 0 [.bool b80, .int .u64 n81] ∧ CallsW Try.prog 33 [.int .i64 d, .agg #[.bool b77, .int .u64 n78], .agg #[.bool b80, .int .u64 n81]] w73 (RetR R fun u83 w82 => ∃ (b84 :
    Bool) (n85 : Int), u83 = .agg #[.bool b84, .int .u64 n85] ∧ SameB w73 w82 [(Addr.add (Addr.add d79 (n18.toNat * 3)) 1), (Addr.add (Addr.add d76 (n17.toNat * 3)) 1), (Addr.add d74 (n17.toNat * 3))] ∧ ∀ (b87 : Nat) (w88
    : World), Alloc w82 w88 b87 (.cells #[.int .u64 n75, .bool b84, .int .u64 n85] 38) → SemW Try.prog (Builtin.append_ #[22, 22] 22 #[.slice a16 l16 c16, .slice (some ⟨b87, 0, none⟩) 1 1]) (fun u90 w89 => ∃ (a91 : Option
    Addr) (l91 c91 : Nat), u90 = .slice a91 l91 c91 ∧ (I15 a91 l91 c91 (IntKind.i64.wrap (n17 + 1)) (IntKind.i64.wrap (n18 + 1)) w89 ∧ m15 a91 l91 c91 (IntKind.i64.wrap (n17 + 1)) (IntKind.i64.wrap (n18 + 1)) w89 < m15
    a16 l16 c16 n17 n18 w19)) w88)))))))))))))))))
theorem sx14.ok {d : Int} {i : Option Addr} {i_n i_c : Nat} {p2 : Option Addr} {p2_n p2_c : Nat} {R : Ending → World → Prop} {w : World} (h : sx14 d i i_n i_c p2 p2_n p2_c R w) : CallsW Try.prog 14 [.int .i64 d, .slice i i_n i_c, .slice p2 p2_n p2_c] w R :=
  callsW_of mix Try.func14 (by kernel_rfl) (by kernel_rfl) (Eq.mpr (by kernel_rfl : denFn Try.prog { sem := [53, 97, 133], draws := [(9, { order := (.cons 0 (.cons 1 (.cons 2 (.cons 3 (.cons 4 (.cons 5 (.cons 6 (.cons 7 (.cons 8 (.cons 9 (.cons 10 (.cons 11 (.cons 12 (.cons 13 (.cons 14 (.cons 15 (.cons 16 (.cons 17 (.cons 18 (.cons 19 (.cons 20 (.cons 21 .nil)))))))))))))))))))))), bars := [19, 20] }), (13, { order := (.cons 0 (.cons 1 (.cons 2 (.cons 3 (.cons 4 (.cons 5 (.cons 6 (.cons 7 (.cons 8 (.cons 9 (.cons 10 (.cons 11 (.cons 12 (.cons 13 (.cons 14 (.cons 15 (.cons 16 .nil))))))))))))))))), bars := [14, 15] }), (16, { order := (.cons 0 (.cons 1 (.cons 2 (.cons 3 (.cons 4 (.cons 5 (.cons 6 (.cons 7 (.cons 8 (.cons 9 (.cons 10 (.cons 11 (.cons 12 (.cons 13 (.cons 14 (.cons 15 (.cons 16 .nil))))))))))))))))), bars := [14, 15] })], loops := [(8, { slots := [(8, .slice), (9, .int .i64), (10, .int .i64)], cells := [] })], cuts := [(12, { slots := [], cells := [] }), (13, { slots := [(58, .bool)], cells := [] }), (16, { slots := [(100, .bool)], cells := [] })] } Try.f14 [.int .i64 d, .slice i i_n i_c, .slice p2 p2_n p2_c] R w = sx14 d i i_n i_c p2 p2_n p2_c R w) h)


set_option maxHeartbeats 2000000 in
theorem RAdd_ok {a b : Option Addr} {n c m k : Nat} {l r : List PairV} {kind : Int} {w : World} (hr : Reads w Enc.pair (a, n, c) l) (hl : ∀ x ∈ l, x.Fits) (hll : l.length ≤ maxLen) (hi : Reads w Enc.pair (b, m, k) r) (hf : ∀ x ∈ r, x.Fits) (hrl : r.length ≤ maxLen) (hs : (l.length + r.length) * 24 ≤ 140737488355328) :
    CallsW Try.prog 14 [.int .i64 kind, .slice a n c, .slice b m k] w (Rets fun u w' => ∃ a' n' c', u = .tuple #[.slice a' n' c', .int .i64 (if knownB kind then if soundB l ∧ soundB r then 0 else 7 else 1)] ∧ Own w' w.heap.size 38 Enc.pair a' n' c' (if knownB kind ∧ soundB l ∧ soundB r then mergeL kind l r else []) ∧ Grew w w') := by
  refine sx14.ok ?_
  unfold sx14
  have hn : n = l.length := hr.2.1
  have hm : m = r.length := hi.2.1
  subst hn; subst hm
  refine RKnown_ok.use fun u w1 ⟨hv, hw⟩ => ?_
  subst hv; subst hw
  cases hk : knownB kind
  · refine ⟨_, rfl, fun _ => ⟨_, rfl, none, 0, 0, by simp, by simpa using Own.nil _ _ _ _, Grew.refl _⟩, fun h => (by simp at h)⟩
  refine ⟨_, rfl, fun h => (by simp at h), fun _ => (RSound_ok hr hll).use fun u w5 ⟨hv, hg5⟩ => ?_⟩
  subst hv
  cases hsl : soundB l
  · refine ⟨_, rfl, fun _ => ⟨_, rfl, none, 0, 0, by simp, by simpa using Own.nil _ _ _ _, hg5⟩, fun h => (by simp at h)⟩
  refine ⟨_, rfl, fun h => (by simp at h), fun _ => (RSound_ok (hi.grew hg5) hrl).use fun u w9 ⟨hv, hg9⟩ => ?_⟩
  subst hv
  have hg9 := hg5.trans hg9
  cases hsr : soundB r
  · refine ⟨_, rfl, fun _ => ⟨_, rfl, none, 0, 0, by simp, by simpa using Own.nil _ _ _ _, hg9⟩, fun h => (by simp at h)⟩
  refine ⟨_, rfl, fun h => (by simp at h), fun _ b13 w14 hal14 => ?_⟩
  have hg14 := hg9.trans hal14.grew
  have ho14 := Own.alloc (E := Enc.pair) (l := []) hal14 hg9.size rfl (by decide)
  simp only [maxLen] at hll hrl
  refine ⟨fun a' l' c' i j w' => ∃ (p q : Nat) (t : List PairV), i = p ∧ j = q ∧ p ≤ l.length ∧ q ≤ r.length ∧ Own w' w1.heap.size 38 Enc.pair a' l' c' t ∧ t ++ mergeL kind (l.drop p) (r.drop q) = mergeL kind l r ∧ t.length ≤ p + q ∧ Grew w1 w', fun _ _ _ i j _ => l.length + r.length - i.toNat - j.toNat, ⟨0, 0, [], rfl, rfl, Nat.zero_le _, Nat.zero_le _, ho14, rfl, by simp, hg14⟩, ?_⟩
  rintro a16 l16 c16 i j w19 ⟨p, q, t, rfl, rfl, hp, hq, ho19, ht, htl, hg19⟩
  have hlp : IntKind.i64.wrap ((p : Int) + 1) = ((p + 1 : Nat) : Int) := by rw [IntKind.wrap_i64]; omega
  have hlq : IntKind.i64.wrap ((q : Int) + 1) = ((q + 1 : Nat) : Int) := by rw [IntKind.wrap_i64]; omega
  refine ⟨fun w' => w' = w19 ∧ (p < l.length ∨ q < r.length), ⟨fun h => ⟨rfl, .inl (by simp only [decide_eq_true_eq] at h; omega)⟩, fun h => ⟨fun h2 => ⟨rfl, .inr (by simp only [decide_eq_true_eq] at h2; omega)⟩, fun h2 => ?_⟩⟩, ?_⟩
  · simp only [decide_eq_false_iff_not] at h h2
    rw [List.drop_of_length_le (by omega), List.drop_of_length_le (by omega), mergeL, List.append_nil] at ht
    subst ht
    exact ⟨_, rfl, a16, l16, c16, by simp, by simpa using ho19, hg19⟩
  rintro w21 ⟨hw, hpq⟩
  subst hw
  -- what lies at a place
  have atL : p < l.length → ∃ (d : Addr) (x : PairV), a = some d ∧ l[p]? = some x := fun h => by
    obtain ⟨d, x, hd, hx, -⟩ := (hr.grew hg19).at0 (k := p) h
    exact ⟨d, x, hd, hx⟩
  have atR : q < r.length → ∃ (d : Addr) (x : PairV), b = some d ∧ r[q]? = some x := fun h => by
    obtain ⟨d, x, hd, hx, -⟩ := (hi.grew hg19).at0 (k := q) h
    exact ⟨d, x, hd, hx⟩
  have cL : ∀ {w' : World} {d : Addr} {x : PairV}, Grew w1 w' → a = some d → l[p]? = some x → w'.cell? (Addr.add d (((p : Nat) : Int).toNat * 3)) = some (.int .u64 x.key) ∧ CellsAt w' (Addr.add (Addr.add d (((p : Nat) : Int).toNat * 3)) 1) 0 [.bool x.has, .int .u64 x.bits] := by
    intro w' d x hg hd hx
    have hlt := (List.getElem?_eq_some_iff.1 hx).1
    obtain ⟨d', x', hd', hx', hc⟩ := (hr.grew hg).at0 (k := p) hlt
    rw [hd] at hd'; cases hd'
    rw [hx] at hx'; cases hx'
    exact ⟨(pair_cells hc).2, (pair_parts hc).2⟩
  have cR : ∀ {w' : World} {d : Addr} {x : PairV}, Grew w1 w' → b = some d → r[q]? = some x → w'.cell? (Addr.add d (((q : Nat) : Int).toNat * 3)) = some (.int .u64 x.key) ∧ CellsAt w' (Addr.add (Addr.add d (((q : Nat) : Int).toNat * 3)) 1) 0 [.bool x.has, .int .u64 x.bits] := by
    intro w' d x hg hd hx
    have hlt := (List.getElem?_eq_some_iff.1 hx).1
    obtain ⟨d', x', hd', hx', hc⟩ := (hi.grew hg).at0 (k := q) hlt
    rw [hd] at hd'; cases hd'
    rw [hx] at hx'; cases hx'
    exact ⟨(pair_cells hc).2, (pair_parts hc).2⟩
  -- one pair more
  have push : ∀ {w38 : World} {e : PairV} {p' q' : Nat}, Grew w21 w38 → p' ≤ l.length → q' ≤ r.length → p + q + 1 ≤ p' + q' → (t ++ [e]) ++ mergeL kind (l.drop p') (r.drop q') = mergeL kind l r → ∀ (b43 : Nat) (w44 : World), Alloc w38 w44 b43 (.cells #[.int .u64 e.key, .bool e.has, .int .u64 e.bits] 38) → SemW Try.prog (Builtin.append_ #[22, 22] 22 #[.slice a16 l16 c16, .slice (some ⟨b43, 0, none⟩) 1 1]) (fun u46 w45 => ∃ (a47 : Option Addr) (l47 c47 : Nat), u46 = .slice a47 l47 c47 ∧
      ((∃ (p q : Nat) (t : List PairV), ((p' : Nat) : Int) = p ∧ ((q' : Nat) : Int) = q ∧ p ≤ l.length ∧ q ≤ r.length ∧ Own w45 w1.heap.size 38 Enc.pair a47 l47 c47 t ∧ t ++ mergeL kind (l.drop p) (r.drop q) = mergeL kind l r ∧ t.length ≤ p + q ∧ Grew w1 w45) ∧ l.length + r.length - ((p' : Nat) : Int).toNat - ((q' : Nat) : Int).toNat < l.length + r.length - ((p : Nat) : Int).toNat - ((q : Nat) : Int).toNat)) w44 := by
    intro w38 e p' q' hg38 hp' hq' hpq' hme b43 w44 hal
    refine append_new (l2 := [e]) elPair (ho19.grew hg38) hal rfl rfl (hg19.trans hg38).size (by simp only [maxLen, List.length_singleton]; omega) (by simp only [List.length_singleton]; omega) ?_
    rintro v w45 ⟨a47, l47, c47, rfl, ho45, hu45, -⟩
    refine ⟨_, _, _, rfl, ⟨p', q', t ++ [e], rfl, rfl, hp', hq', ho45, hme, by simp only [List.length_append, List.length_singleton]; omega, (hg19.trans hg38).then_own hu45 fun b hb => (ho19.blk hb).1⟩, by omega⟩
  refine ⟨fun b' w' => Grew w21 w' ∧ (b' = true ↔ (q = r.length ∨ (p < l.length ∧ ∃ x y, l[p]? = some x ∧ r[q]? = some y ∧ x.key < y.key))), ⟨fun h w23 hg23 => ⟨hg23, ⟨fun _ => .inl (by simp only [beq_iff_eq] at h; omega), fun _ => rfl⟩⟩, fun h => ⟨fun h2 => ?_, fun h2 w29 hg29 => ⟨hg29, ⟨fun hh => (by cases hh), fun hh => ?_⟩⟩⟩⟩, ?_⟩
  · simp only [decide_eq_true_eq] at h2
    simp only [beq_eq_false_iff_ne, ne_eq] at h
    obtain ⟨d, x, hd, hx⟩ := atL (by omega)
    obtain ⟨d2, y, hd2, hy⟩ := atR (by omega)
    rw [hd, hd2, withSome]
    refine ⟨⟨by omega, by omega⟩, _, (cL hg19 hd hx).1, ?_⟩
    rw [withSome]
    refine ⟨⟨by omega, by omega⟩, _, (cR hg19 hd2 hy).1, fun w28 hg28 => ⟨hg28, ?_⟩⟩
    rw [decide_eq_true_eq]
    constructor
    · exact fun hlt => .inr ⟨by omega, x, y, hx, hy, hlt⟩
    · rintro (he | ⟨-, x', y', hx', hy', hlt⟩)
      · omega
      · rw [hx] at hx'; cases hx'
        rw [hy] at hy'; cases hy'
        exact hlt
  · simp only [decide_eq_false_iff_not] at h2
    simp only [beq_eq_false_iff_ne, ne_eq] at h
    rcases hh with hh | hh
    · omega
    · omega
  rintro b30 w31 ⟨hg31, hb30⟩
  refine ⟨fun hb w32 hg32 => ?_, fun hb => ?_⟩
  · -- from the first
    have hp' : p < l.length := by
      rcases hb30.1 hb with h | h
      · rcases hpq with h' | h' <;> omega
      · exact h.1
    obtain ⟨d, x, hd, hx⟩ := atL hp'
    have hg32' := hg31.trans hg32
    obtain ⟨c1, c2⟩ := cL (hg19.trans hg32') hd hx
    have hxf := hl x (List.mem_of_getElem? hx)
    rw [hd, withSome]
    refine ⟨⟨by omega, by omega⟩, _, c1, ?_⟩
    rw [withSome]
    have hblk := cell_blockF c1
    have hblk2 := cell_blockF c2.1
    rw [Addr.add_zero'] at hblk2
    refine ⟨⟨by omega, by omega⟩, _, _, c2, (RFit_ok (v := x.val) hxf.2).use fun u w38 ⟨hv, hg38⟩ => ?_⟩
    subst hv
    rw [hlp]
    refine ⟨_, _, rfl, ⟨hg38.block _ hblk2, hg38.block _ hblk, trivial⟩, fun b43 w44 hal => push (e := pairOf x.key (fitV kind x.val)) (p' := p + 1) (q' := q) (hg32'.trans hg38) (by omega) hq (by omega) ?_ b43 w44 hal⟩
    rw [← ht, drop_cons hx, List.append_assoc]
    congr 1
    rcases hb30.1 hb with h | ⟨-, x', y, hx', hy, hlt⟩
    · rw [List.drop_of_length_le (show r.length ≤ q by omega), mergeL]; rfl
    · rw [hx] at hx'; cases hx'
      rw [drop_cons hy]
      conv => rhs; rw [mergeL]
      rw [if_pos hlt]; rfl
  · have hnb : ¬ (q = r.length ∨ (p < l.length ∧ ∃ x y, l[p]? = some x ∧ r[q]? = some y ∧ x.key < y.key)) := fun h => by rw [hb30.2 h] at hb; cases hb
    have hq' : q < r.length := by omega
    obtain ⟨d2, y, hd2, hy⟩ := atR hq'
    have hg31' := hg19.trans hg31
    refine ⟨fun b' w' => Grew w31 w' ∧ (b' = true ↔ (p = l.length ∨ ∃ x, l[p]? = some x ∧ y.key < x.key)), ⟨fun h w49 hg49 => ⟨hg49, ⟨fun _ => .inl (by simp only [beq_iff_eq] at h; omega), fun _ => rfl⟩⟩, fun h => ?_⟩, ?_⟩
    · simp only [beq_eq_false_iff_ne, ne_eq] at h
      obtain ⟨d, x, hd, hx⟩ := atL (by omega)
      rw [hd, hd2, withSome]
      refine ⟨⟨by omega, by omega⟩, _, (cR hg31' hd2 hy).1, ?_⟩
      rw [withSome]
      refine ⟨⟨by omega, by omega⟩, _, (cL hg31' hd hx).1, fun w54 hg54 => ⟨hg54, ?_⟩⟩
      rw [decide_eq_true_eq]
      constructor
      · exact fun hlt => .inr ⟨x, hx, hlt⟩
      · rintro (he | ⟨x', hx', hlt⟩)
        · omega
        · rw [hx] at hx'; cases hx'; exact hlt
    rintro b55 w56 ⟨hg56, hb55⟩
    refine ⟨fun hb' w57 hg57 => ?_, fun hb' w73 hg73 => ?_⟩
    · -- from the second
      have hg57' := hg31.trans (hg56.trans hg57)
      obtain ⟨c1, c2⟩ := cR (hg19.trans hg57') hd2 hy
      have hyf := hf y (List.mem_of_getElem? hy)
      rw [hd2, withSome]
      refine ⟨⟨by omega, by omega⟩, _, c1, ?_⟩
      rw [withSome]
      have hblk := cell_blockF c1
      have hblk2 := cell_blockF c2.1
      rw [Addr.add_zero'] at hblk2
      refine ⟨⟨by omega, by omega⟩, _, _, c2, (RFit_ok (v := y.val) hyf.2).use fun u w63 ⟨hv, hg63⟩ => ?_⟩
      subst hv
      rw [hlq]
      refine ⟨_, _, rfl, ⟨hg63.block _ hblk2, hg63.block _ hblk, trivial⟩, fun b43 w44 hal => push (e := pairOf y.key (fitV kind y.val)) (p' := p) (q' := q + 1) (hg57'.trans hg63) hp (by omega) (by omega) ?_ b43 w44 hal⟩
      rw [← ht, drop_cons hy, List.append_assoc]
      congr 1
      rcases hb55.1 hb' with h | ⟨x, hx, hlt⟩
      · rw [List.drop_of_length_le (show l.length ≤ p by omega), mergeL]; rfl
      · rw [drop_cons hx]
        conv => rhs; rw [mergeL]
        rw [if_neg (by omega), if_pos hlt]; rfl
    · -- both
      have hnb' : ¬ (p = l.length ∨ ∃ x, l[p]? = some x ∧ y.key < x.key) := fun h => by rw [hb55.2 h] at hb'; cases hb'
      obtain ⟨d, x, hd, hx⟩ := atL (by omega)
      have hxy : x.key = y.key := by
        have h1 : ¬ y.key < x.key := fun h => hnb' (.inr ⟨x, hx, h⟩)
        have h2 : ¬ x.key < y.key := fun h => hnb (.inr ⟨by omega, x, y, hx, hy, h⟩)
        omega
      have hg73' := hg31.trans (hg56.trans hg73)
      obtain ⟨c1, c2⟩ := cL (hg19.trans hg73') hd hx
      obtain ⟨d1, d3⟩ := cR (hg19.trans hg73') hd2 hy
      have hxf := hl x (List.mem_of_getElem? hx)
      have hyf := hf y (List.mem_of_getElem? hy)
      have hblk := cell_blockF c1
      have hblk2 := cell_blockF c2.1
      rw [Addr.add_zero'] at hblk2
      have hblk3 := cell_blockF d3.1
      rw [Addr.add_zero'] at hblk3
      rw [hd, hd2, withSome]
      refine ⟨⟨by omega, by omega⟩, _, c1, ?_⟩
      rw [withSome]
      refine ⟨⟨by omega, by omega⟩, _, _, c2, ?_⟩
      rw [withSome]
      refine ⟨⟨by omega, by omega⟩, _, _, d3, (RMerge_ok (a := x.val) (b := y.val) hxf.2 hyf.2).use fun u w82 ⟨hv, hg82⟩ => ?_⟩
      subst hv
      rw [hlp, hlq]
      refine ⟨_, _, rfl, ⟨hg82.block _ hblk3, hg82.block _ hblk2, hg82.block _ hblk, trivial⟩, fun b43 w44 hal => push (e := pairOf x.key (mergeV kind x.val y.val)) (p' := p + 1) (q' := q + 1) (hg73'.trans hg82) (by omega) (by omega) (by omega) ?_ b43 w44 hal⟩
      rw [← ht, drop_cons hx, drop_cons hy, List.append_assoc]
      congr 1
      conv => rhs; rw [mergeL]
      rw [if_neg (by omega), if_neg (by omega)]; rfl
end Go.Proofs.Ytoljpkdokpinhaa
