/- What the reference source's keys are. Conditions: none. -/
import Derived.Test.YtifhpmmdfjmppaaGreatProg
import Derived.Test.YtifhpmmdfjmppaaGreatSrcR
namespace Go.Proofs.YtifhpmmdfjmppaaGreat
open Go.Sx
set_option maxRecDepth 100000
set_option linter.unusedVariables false
set_option linter.unusedSimpArgs false
theorem elKey : ElemOk Tryz.prog 43 35 (Enc.int .u64).sz 8 := ElemOk.mk' (z := .int .u64 0) (by kernel_rfl) (by kernel_rfl) (by kernel_rfl)
theorem int_cell {w : World} {d : Addr} {k : Nat} {x : Int} (h : CellsAt w (d.add (k * (Enc.int .u64).sz)) 0 ((Enc.int .u64).f x)) : w.cell? (Addr.add d (((k : Nat) : Int).toNat * 1)) = some (.int .u64 x) := by
  have := cellsAt_get h 0 _ rfl
  simpa [Enc.int, Addr.add_zero'] using this
/-- what comes of a key put into a rising row -/
def WithR (w : World) (B : Nat) (a : Option Addr) (l : List Int) (k : Int) (u : Value) (w' : World) : Prop :=
  ∃ (a' : Option Addr) (n' c' : Nat) (R : List Int), u = .slice a' n' c' ∧ Own w' B 35 (Enc.int .u64) a' n' c' R ∧ Upd (Blk a) w w' ∧ (∀ b, Blk a' b → Blk a b ∨ w.heap.size ≤ b) ∧ R.Pairwise (· < ·) ∧ (∀ x, x ∈ R ↔ x = k ∨ x ∈ l) ∧ R.length = if k ∈ l then l.length else l.length + 1
theorem With_ok {w : World} {B : Nat} {a : Option Addr} {n c : Nat} {l : List Int} {k : Int} (ho : Own w B 35 (Enc.int .u64) a n c l) (hB : B ≤ w.heap.size) (hl : l.Pairwise (· < ·)) (hlen : l.length ≤ 2000) :
    CallsW Tryz.prog 32 [.slice a n c, .int .u64 k] w (Rets (WithR w B a l k)) := by
  refine sx32.ok ?_
  unfold sx32
  have hn : n = l.length := ho.len
  subst hn
  have small : ∀ j : Nat, j ≤ 3000 → IntKind.i64.wrap ((j : Int) + 1) = ((j + 1 : Nat) : Int) := fun j hj => by rw [IntKind.wrap_i64]; omega
  -- the shifting up, and the key put in
  have tail : ∀ (j : Nat), j ≤ l.length → (∀ x ∈ l.take j, x < k) → (∀ x, l[j]? = some x → k < x) → ∀ (b : Nat) (w27 : World), Alloc w w27 b (.cells #[.int .u64 0] 35) →
      SemW Tryz.prog (Builtin.append_ #[43, 43] 43 #[.slice a l.length c, .slice (some ⟨b, 0, none⟩) 1 1]) (fun u29 w28 => ∃ (a30 : Option Addr) (l30 c30 : Nat), u29 = .slice a30 l30 c30 ∧ ∀ n31 : Int,
        n31 = IntKind.i64.wrap (((l30 : Nat) : Int) - 1) → ∃ (I32 : Int → World → Prop) (m32 : Int → World → Nat), I32 n31 w28 ∧ ∀ (n33 : Int) (w34 : World), I32 n33 w34 → (((decide (n33 > (j : Int))) = true → withSome a30 (fun d35 =>
        (0 ≤ (IntKind.i64.wrap (n33 - 1)) ∧ (IntKind.i64.wrap (n33 - 1)) < (l30 : Nat)) ∧ ∃ (n36 : Int), w34.cell? (Addr.add d35 ((IntKind.i64.wrap (n33 - 1)).toNat * 1)) = some (.int .u64 n36) ∧ withSome a30 (fun d37 =>
        (0 ≤ n33 ∧ n33 < (l30 : Nat)) ∧ RoomAt w34 (Addr.add d37 (n33.toNat * 1)) 0 [.int .u64 n36] ∧ ∀ w38, w38 = setCells w34 (Addr.add d37 (n33.toNat * 1)) 0 [.int .u64 n36] → (I32 (IntKind.i64.wrap (n33 - 1)) w38 ∧ m32
        (IntKind.i64.wrap (n33 - 1)) w38 < m32 n33 w34)))) ∧ ((decide (n33 > (j : Int))) = false → withSome a30 (fun d39 => (0 ≤ (j : Int) ∧ (j : Int) < (l30 : Nat)) ∧ RoomAt w34 (Addr.add d39 ((j : Int).toNat * 1)) 0 [.int .u64 k] ∧ ∀ w40, w40 =
        setCells w34 (Addr.add d39 ((j : Int).toNat * 1)) 0 [.int .u64 k] → Rets (WithR w B a l k) (.returned (.slice a30 l30 c30)) w40)))) w27 := by
    intro j hj h1 h2 b w27 hal
    refine append_new (l2 := [0]) elKey ho hal rfl rfl hB (by simp [maxLen]; omega) (by simp; omega) ?_
    rintro u w28 ⟨a30, l30, c30, rfl, ho28, hu28, hb28⟩
    have hl30 : l30 = l.length + 1 := by rw [ho28.len]; simp
    subst hl30
    obtain ⟨g, rfl⟩ : ∃ g, a30 = some ⟨g, 0, none⟩ := by
      rcases ho28.out with ⟨-, h, -, -⟩ | ⟨g, cur, h, -⟩
      · simp at h
      · exact ⟨g, h⟩
    refine ⟨_, _, _, rfl, fun n31 h31 => ?_⟩
    have e31 : n31 = (l.length : Int) := by rw [h31, IntKind.wrap_i64]; omega
    have hgb : ∀ {w34 : World}, Upd (fun b => Blk a b ∨ b = g) w w34 → Upd (Blk a) w w34 := fun hu => hu.mono fun b hlt hb => by
      rcases hb with hb | rfl
      · exact hb
      · rcases hb28 b ⟨_, rfl, rfl⟩ with hb | hb
        · exact hb
        · omega
    refine ⟨fun i w34 => ∃ (m : Nat) (y : Int), i = m ∧ j ≤ m ∧ m ≤ l.length ∧ Own w34 B 35 (Enc.int .u64) (some ⟨g, 0, none⟩) (l.length + 1) c30 (l.take m ++ y :: l.drop m) ∧ Upd (fun b => Blk a b ∨ b = g) w w34, fun i _ => i.toNat, ⟨l.length, 0, e31, hj, Nat.le_refl _, by simpa using ho28, hu28.mono fun b _ hb => .inl hb⟩, ?_⟩
    rintro i w34 ⟨m, y, rfl, hjm, hm, ho34, hu34⟩
    have hlen34 : (l.take m ++ y :: l.drop m).length = l.length + 1 := by simp; omega
    refine ⟨fun hgt => ?_, fun hle => ?_⟩
    · simp only [decide_eq_true_eq, gt_iff_lt] at hgt
      have e1 : IntKind.i64.wrap ((m : Int) - 1) = ((m - 1 : Nat) : Int) := by rw [IntKind.wrap_i64]; omega
      rw [e1]
      obtain ⟨d, x, hd, hx, hc⟩ := ho34.reads.at0 (k := m - 1) (by omega)
      cases hd
      have hx' : l[m - 1]? = some x := by
        rw [List.getElem?_append_left (by simp; omega), List.getElem?_take, if_pos (by omega)] at hx
        exact hx
      obtain ⟨g', hg', hR, hO, hU⟩ := ho34.set1 (i := m) (x := y) (x' := x) (v := .int .u64 x) (j := 0) (by
        rw [List.getElem?_append_right (by simp; omega)]
        simp [show m - min m l.length = 0 from by omega]) (by decide) (by simp [Enc.int])
      cases hg'
      have e : m * (Enc.int .u64).sz + 0 = m := by simp [Enc.int]
      rw [e] at hR hO hU
      have eset : (l.take m ++ y :: l.drop m).set m x = l.take (m - 1) ++ x :: l.drop (m - 1) := by
        have t1 : l.take m = l.take (m - 1) ++ [x] := by
          have := take_snoc hx'
          rwa [show m - 1 + 1 = m from by omega] at this
        have t2 : l.drop (m - 1) = x :: l.drop m := by
          have := drop_cons hx'
          rwa [show m - 1 + 1 = m from by omega] at this
        rw [List.set_append_right _ _ (by simp; omega), show m - (l.take m).length = 0 from by simp; omega]
        rw [t2, t1]; simp
      rw [eset] at hO
      rw [withSome]
      refine ⟨⟨by omega, by omega⟩, x, int_cell hc, ?_⟩
      rw [withSome]
      simp only [add_mk, Nat.mul_one, Nat.zero_add, Int.toNat_natCast]
      refine ⟨⟨by omega, by omega⟩, hR, ?_⟩
      rintro w38 rfl
      refine ⟨⟨m - 1, x, rfl, by omega, by omega, hO, hu34.trans (hU.mono fun b _ hb => .inr hb)⟩, ?_⟩
      omega
    · simp only [decide_eq_false_iff_not, gt_iff_lt] at hle
      have hmj : m = j := by omega
      subst hmj
      obtain ⟨g', hg', hR, hO, hU⟩ := ho34.set1 (i := m) (x := y) (x' := k) (v := .int .u64 k) (j := 0) (by
        rw [List.getElem?_append_right (by simp; omega)]
        simp [show m - min m l.length = 0 from by omega]) (by decide) (by simp [Enc.int])
      cases hg'
      have e : m * (Enc.int .u64).sz + 0 = m := by simp [Enc.int]
      rw [e] at hR hO hU
      have eset : (l.take m ++ y :: l.drop m).set m k = l.take m ++ k :: l.drop m := by
        rw [List.set_append_right _ _ (by simp; omega), show m - (l.take m).length = 0 from by simp; omega]; rfl
      rw [eset] at hO
      rw [withSome]
      simp only [add_mk, Nat.mul_one, Nat.zero_add, Int.toNat_natCast]
      refine ⟨⟨by omega, by omega⟩, hR, ?_⟩
      rintro w40 rfl
      obtain ⟨p1, p2, p3⟩ := strict_put hl hj h1 h2
      refine ⟨_, rfl, _, _, _, _, rfl, hO, hgb (hu34.trans (hU.mono fun b _ hb => .inr hb)), hb28, p1, p2, ?_⟩
      rw [if_neg p3]; simp; omega
  refine ⟨fun i w' => ∃ j : Nat, i = j ∧ j ≤ l.length ∧ (∀ x ∈ l.take j, x < k) ∧ (∀ x, l[j]? = some x → k ≤ x) ∧ w' = w, ?_, ?_⟩
  · refine ⟨fun i w' => ∃ j : Nat, i = j ∧ j ≤ l.length ∧ (∀ x ∈ l.take j, x < k) ∧ w' = w, fun i _ => l.length - i.toNat, ⟨0, rfl, Nat.zero_le _, by simp, rfl⟩, ?_⟩
    rintro i w4 ⟨j, rfl, hj, h1, rfl⟩
    refine ⟨fun hlt => ?_, fun hge => ?_⟩
    · simp only [decide_eq_true_eq] at hlt
      obtain ⟨d, x, hd, hx, hc⟩ := ho.reads.at0 (k := j) (by omega)
      subst hd
      rw [withSome, small j (by omega)]
      refine ⟨⟨by omega, by omega⟩, x, int_cell hc, fun hb => ?_, fun hb => ?_⟩
      · simp only [decide_eq_true_eq] at hb
        refine ⟨⟨j + 1, rfl, by omega, ?_, rfl⟩, by show l.length - (((j + 1 : Nat) : Int)).toNat < l.length - ((j : Int)).toNat; omega⟩
        intro z hz
        rw [take_snoc hx, List.mem_append] at hz
        rcases hz with hz | hz
        · exact h1 z hz
        · simp at hz; subst hz; exact hb
      · simp only [decide_eq_false_iff_not] at hb
        exact ⟨j, rfl, hj, h1, fun z hz => by rw [hx] at hz; cases hz; omega, rfl⟩
    · simp only [decide_eq_false_iff_not] at hge
      exact ⟨j, rfl, hj, h1, fun z hz => by have := (List.getElem?_eq_some_iff.1 hz).1; omega, rfl⟩
  rintro i w8 ⟨j, rfl, hj, h1, h2, rfl⟩
  refine ⟨fun hlt => ?_, fun hge b26 w27 hal => ?_⟩
  · simp only [decide_eq_true_eq] at hlt
    obtain ⟨d, x, hd, hx, hc⟩ := ho.reads.at0 (k := j) (by omega)
    subst hd
    rw [withSome]
    refine ⟨⟨by omega, by omega⟩, x, int_cell hc, fun hb => ?_, fun hb b11 w12 hal => ?_⟩
    · simp only [beq_iff_eq] at hb
      subst hb
      have hmem := List.mem_of_getElem? hx
      exact ⟨_, rfl, _, _, _, l, rfl, ho, Upd.refl _ _, fun b hb => .inl hb, hl, fun z => ⟨.inr, fun h => h.elim (fun e => e ▸ hmem) id⟩, by rw [if_pos hmem]⟩
    · simp only [beq_eq_false_iff_ne, ne_eq] at hb
      exact tail j hj h1 (fun z hz => by have := h2 z hz; rw [hx] at hz; cases hz; omega) b11 w12 hal
  · simp only [decide_eq_false_iff_not] at hge
    exact tail j hj h1 (fun z hz => by have := (List.getElem?_eq_some_iff.1 hz).1; omega) b26 w27 hal
theorem RKeys_ok {w : World} {B : Nat} {x : RSrcX} {v : SrcV} (h : RSA w B x v) :
    CallsW Tryz.prog 10 [.pointer (some ⟨x.q, 0, none⟩)] w (Rets (Fresh w 35 (Enc.int .u64) (sortL v.keys))) := by
  refine sx10.ok ?_
  unfold sx10
  have hpl := h.fits.parts
  have hlen := h.len
  intro b1 w2 hal2
  have ho2 := Own.alloc (E := Enc.int .u64) (l := []) hal2 (Nat.le_refl _) rfl (by decide)
  refine ⟨fun a l c p w' => ∃ (j : Nat) (K : List Int), p = j ∧ j ≤ v.parts.length ∧ Own w' w.heap.size 35 (Enc.int .u64) a l c K ∧ Grew w w' ∧ K.Pairwise (· < ·) ∧ K.length ≤ j * 256 ∧ (∀ k, k ∈ K ↔ ∃ q ∈ v.parts.take j, ∃ r ∈ q.1, keyOfB v.list r = (k, true)), fun _ _ _ p _ => v.parts.length - p.toNat, ⟨0, [], rfl, Nat.zero_le _, ho2, hal2.grew, List.Pairwise.nil, by simp, by simp⟩, ?_⟩
  rintro a4 l4 c4 n5 w6 ⟨j, K, rfl, hj, ho6, hg6, hs6, hlK, hm6⟩
  refine (RParts_ok (h.grew hg6)).use fun u w7 ⟨hv, hw⟩ => ?_
  subst hv; subst hw
  refine ⟨_, rfl, fun hlt => ?_, fun hge => ?_⟩
  · simp only [decide_eq_true_eq] at hlt
    obtain ⟨q, hp⟩ : ∃ q, v.getP (j : Int) = some q := getP_of (by omega) (by omega)
    obtain ⟨hp0, hp1, hpq⟩ := getP_some hp
    simp only [Int.toNat_natCast] at hpq
    have hql := h.fits.logs q (List.mem_of_getElem? hpq)
    refine ⟨fun a l c i w' => ∃ (m : Nat) (K : List Int), i = m ∧ m ≤ q.1.length ∧ Own w' w.heap.size 35 (Enc.int .u64) a l c K ∧ Grew w w' ∧ K.Pairwise (· < ·) ∧ K.length ≤ j * 256 + m ∧ (∀ k, k ∈ K ↔ (∃ q ∈ v.parts.take j, ∃ r ∈ q.1, keyOfB v.list r = (k, true)) ∨ ∃ r ∈ q.1.take m, keyOfB v.list r = (k, true)), fun _ _ _ i _ => 300 - i.toNat, ⟨0, K, rfl, Nat.zero_le _, ho6, hg6, hs6, by omega, fun k => by rw [hm6 k]; simp⟩, ?_⟩
    rintro a12 l12 c12 n13 w14 ⟨m, K2, rfl, hm, ho14, hg14, hs14, hl14, hm14⟩
    have h14 := h.grew hg14
    obtain ⟨s, hs, hos, hc0, hc1, hlt2⟩ := h14.part hp
    have hsl : s.2.1 = q.1.length := hos.len
    have ecell : ∀ {w' : World}, w'.cell? ⟨x.lb, ((j : Int)).toNat, none⟩ = some (.slice s.1 s.2.1 s.2.2) → w'.cell? (Addr.add (⟨x.lb, 0, none⟩ : Addr) (((j : Nat) : Int).toNat * 1)) = some (.slice s.1 s.2.1 s.2.2) := fun hh => by simp only [add_mk, Nat.mul_one, Nat.zero_add]; exact hh
    refine ⟨_, _, _, rc0 h14, ⟨by omega, hlt2⟩, s.1, s.2.1, s.2.2, ecell hc0, fun hlt3 w18 hg18 => ?_, fun hge3 => ?_⟩
    · simp only [decide_eq_true_eq] at hlt3
      have hg18' := hg14.trans hg18
      have h18 := h.grew hg18'
      obtain ⟨s2, hs2, hos2, hc02, -, -⟩ := h18.part hp
      rw [hs] at hs2; cases hs2
      obtain ⟨d, r, hd, hr, hcc⟩ := hos2.reads.at0 (k := m) (by omega)
      refine ⟨_, _, _, rc2 h18, _, _, _, rc0 h18, ⟨by omega, hlt2⟩, s.1, s.2.1, s.2.2, ecell hc02, ?_⟩
      rw [hd, withSome]
      have hrf := hql.2 r (List.mem_of_getElem? hr)
      have hw : IntKind.i64.wrap ((m : Int) + 1) = ((m + 1 : Nat) : Int) := by rw [IntKind.wrap_i64]; omega
      have dec : 300 - (((m + 1 : Nat) : Int)).toNat < 300 - ((m : Int)).toNat := by omega
      have emem : ∀ k, (∃ r ∈ q.1.take (m + 1), keyOfB v.list r = (k, true)) ↔ (∃ r ∈ q.1.take m, keyOfB v.list r = (k, true)) ∨ keyOfB v.list r = (k, true) := by
        intro k
        rw [take_snoc hr]
        constructor
        · rintro ⟨z, hz, he⟩
          rcases List.mem_append.1 hz with hz | hz
          · exact .inl ⟨z, hz, he⟩
          · simp at hz; subst hz; exact .inr he
        · rintro (⟨z, hz, he⟩ | he)
          · exact ⟨z, List.mem_append_left _ hz, he⟩
          · exact ⟨r, by simp, he⟩
      refine ⟨⟨by omega, by omega⟩, r.key, r.val, hcc, (RKey_ok h18.list.reads h.fits.list hrf).use fun u w26 ⟨hv, hg26⟩ => ?_⟩
      subst hv
      have hg26' := hg18'.trans hg26
      have ho26 := (ho14.grew hg18).grew hg26
      refine ⟨_, _, rfl, fun hb => ?_, fun hb => ?_⟩
      · refine (With_ok (k := (keyOfB v.list r).1) ho26 hg26'.size hs14 (by omega)).use fun u w31 ⟨a33, l33, c33, R, hv, ho31, hu31, hb31, hsR, hmR, hlR⟩ => ?_
        subst hv
        rw [hw]
        have hkr : keyOfB v.list r = ((keyOfB v.list r).1, true) := by rw [← hb]
        refine ⟨_, _, _, rfl, ⟨m + 1, R, rfl, by omega, ho31, hg26'.then_own hu31 fun b hb => (ho26.blk hb).1, hsR, ?_, fun k => ?_⟩, dec⟩
        · split at hlR <;> omega
        · rw [hmR, hm14 k, emem k]
          constructor
          · rintro (rfl | h1 | h1)
            · exact .inr (.inr hkr)
            · exact .inl h1
            · exact .inr (.inl h1)
          · rintro (h1 | h1 | h1)
            · exact .inr (.inl h1)
            · exact .inr (.inr h1)
            · exact .inl (by rw [h1])
      · rw [hw]
        refine ⟨⟨m + 1, K2, rfl, by omega, ho26, hg26', hs14, by omega, fun k => ?_⟩, dec⟩
        rw [hm14 k, emem k]
        constructor
        · rintro (h1 | h1)
          · exact .inl h1
          · exact .inr (.inl h1)
        · rintro (h1 | h1 | h1)
          · exact .inl h1
          · exact .inr h1
          · rw [h1] at hb; cases hb
    · simp only [decide_eq_false_iff_not] at hge3
      have hmq : m = q.1.length := by omega
      subst hmq
      have hw : IntKind.i64.wrap ((j : Int) + 1) = ((j + 1 : Nat) : Int) := by rw [IntKind.wrap_i64]; omega
      rw [hw]
      refine ⟨⟨j + 1, K2, rfl, by omega, ho14, hg14, hs14, by omega, fun k => ?_⟩, by show v.parts.length - (((j + 1 : Nat) : Int)).toNat < v.parts.length - ((j : Int)).toNat; omega⟩
      rw [hm14 k, take_snoc hpq, List.take_length]
      constructor
      · rintro (⟨z, hz, r, hr, he⟩ | ⟨r, hr, he⟩)
        · exact ⟨z, List.mem_append_left _ hz, r, hr, he⟩
        · exact ⟨q, by simp, r, hr, he⟩
      · rintro ⟨z, hz, r, hr, he⟩
        rcases List.mem_append.1 hz with hz | hz
        · exact .inl ⟨z, hz, r, hr, he⟩
        · simp at hz; subst hz; exact .inr ⟨r, hr, he⟩
  · simp only [decide_eq_false_iff_not] at hge
    rw [List.take_of_length_le (by omega)] at hm6
    have e : K = sortL v.keys := strict_ext hs6 (sortL_strict h.fits.keys.1) fun k => by rw [sortL_mem, hm6 k, h.keys k]
    rw [e] at ho6
    exact ⟨_, rfl, a4, l4, c4, rfl, ho6, hg6⟩

theorem sortL_len (l : List Int) : (sortL l).length = l.length := (sortL_perm l).length_eq
theorem RProduce_ok {w : World} {B : Nat} {x : RSrcX} {v : SrcV} {p : Int} {r : RecV} (h : RSA w B x v) (hr : r.Fits) (hB : B ≤ w.heap.size) :
    CallsW Tryz.prog 25 [.pointer (some ⟨x.q, 0, none⟩), .int .i64 p, r.v] w (Rets fun u w' => u = .int .i64 (v.produce p r).2 ∧ RSM w B x w' (v.produce p r).1) := by
  refine sx25.ok ?_
  unfold sx25
  have hkf := produce_fits (p := p) h.fits hr
  have hkk := keysOk_produce (p := p) (r := r) h.keys
  intro w1 hg1
  have h1 := h.grew hg1
  refine (has_ok (p := p) h1).use fun u w2 ⟨hw, hv⟩ => ?_
  subst hw; subst hv
  cases hp : v.getP p with
  | none =>
    have e : v.produce p r = (v, 60) := by unfold SrcV.produce; rw [hp]
    rw [e]
    exact ⟨_, rfl, fun _ => ⟨_, rfl, rfl, RSrcMoves.grew h hg1⟩, fun hh => (by cases hh)⟩
  | some q =>
    obtain ⟨s, hs, hos, hc0, hc1, hlt⟩ := h1.part hp
    obtain ⟨hp0, hp1, hpq⟩ := getP_some hp
    have hql := h.fits.logs q (List.mem_of_getElem? hpq)
    have hsl : s.2.1 = q.1.length := hos.len
    have ecell : ∀ {w' : World}, w'.cell? ⟨x.lb, p.toNat, none⟩ = some (.slice s.1 s.2.1 s.2.2) → w'.cell? (Addr.add (⟨x.lb, 0, none⟩ : Addr) (p.toNat * 1)) = some (.slice s.1 s.2.1 s.2.2) := fun hh => by simp only [add_mk, Nat.mul_one, Nat.zero_add]; exact hh
    refine ⟨_, rfl, fun hh => (by cases hh), fun _ => ⟨_, _, _, rc0 h1, ⟨hp0, hlt⟩, s.1, s.2.1, s.2.2, ecell hc0, fun h256 => ?_, fun h256 w9 hg9 => ?_⟩⟩
    · simp only [beq_iff_eq] at h256
      have e : v.produce p r = (v, 61) := by unfold SrcV.produce; rw [hp]; simp only; rw [if_pos (by omega)]
      rw [e]
      exact ⟨_, rfl, rfl, RSrcMoves.grew h hg1⟩
    simp only [beq_eq_false_iff_ne, ne_eq] at h256
    have hlt256 : ¬ 256 ≤ q.1.length := by omega
    have hg9' := hg1.trans hg9
    have h9 := h.grew hg9'
    refine ⟨_, _, _, rc2 h9, (RKey_ok h9.list.reads h.fits.list hr).use fun u w11 ⟨hv, hg11⟩ => ?_⟩
    subst hv
    have hg11' := hg9'.trans hg11
    have h11 := h.grew hg11'
    -- the record behind the others
    have push : ∀ {w' : World}, Grew w w' → (v.produce p r).2 = 0 → (v.produce p r).1.parts = v.parts.set p.toNat (q.1 ++ [r], q.2) → (v.produce p r).1.list = v.list →
        ∀ w24, Grew w' w24 → ∃ (a25 : Option Addr) (l25 c25 : Nat), w24.cell? ⟨x.q, 0, none⟩ = some (.slice a25 l25 c25) ∧ ∃ (a26 : Option Addr) (l26 c26 : Nat), w24.cell? ⟨x.q, 0, none⟩ = some (.slice a26 l26 c26) ∧
        withSome a26 (fun d27 => (0 ≤ p ∧ p < (l26 : Nat)) ∧ ∃ (a28 : Option Addr) (l28 c28 : Nat), w24.cell? (Addr.add d27 (p.toNat * 1)) = some (.slice a28 l28 c28) ∧ ∀ (b29 : Nat) (w30 : World), Alloc w24 w30 b29 (.cells
        #[.int .u64 r.key, .float .f64 r.val] 38) → SameB w24 w30 [(Addr.add d27 (p.toNat * 1)), ⟨x.q, 0, none⟩, ⟨x.q, 0, none⟩] ∧ SemW Tryz.prog (Builtin.append_ #[47, 47] 47 #[.slice a28 l28 c28, .slice (some ⟨b29, 0, none⟩) 1 1])
        (fun u32 w31 => ∃ (a33 : Option Addr) (l33 c33 : Nat), u32 = .slice a33 l33 c33 ∧ SameB w30 w31 [(Addr.add d27 (p.toNat * 1)), ⟨x.q, 0, none⟩, ⟨x.q, 0, none⟩] ∧ withSome a25 (fun d34 => (0 ≤ p ∧ p < (l25 : Nat)) ∧ RoomAt
        w31 (Addr.add d34 (p.toNat * 1)) 0 [.slice a33 l33 c33] ∧ ∀ w35, w35 = setCells w31 (Addr.add d34 (p.toNat * 1)) 0 [.slice a33 l33 c33] → Rets (fun u w' => u = .int .i64 (v.produce p r).2 ∧ RSM w B x w' (v.produce p r).1) (.returned (.int .i64 0)) w35)) w30) := by
      intro w' hg' e0 eparts elist w24 hg24
      have hg24' := hg'.trans hg24
      have h24 := h.grew hg24'
      obtain ⟨s2, hs2, hos2, hc02, -, -⟩ := h24.part hp
      rw [hs] at hs2; cases hs2
      refine ⟨_, _, _, rc0 h24, _, _, _, rc0 h24, ⟨hp0, hlt⟩, s.1, s.2.1, s.2.2, ecell hc02, fun b29 w30 hal30 => ?_⟩
      have blb : x.lb < w24.heap.size := (h24.foot (.inr (.inl rfl))).2
      have bq : x.q < w24.heap.size := (h24.foot (.inl rfl)).2
      refine ⟨⟨by rw [add_mk]; exact hal30.grew.block _ blb, hal30.grew.block _ bq, hal30.grew.block _ bq, trivial⟩, ?_⟩
      refine append_new (l2 := [r]) elRec hos2 hal30 rfl rfl (Nat.le_trans hB hg24'.size) (by simp [maxLen]; omega) (by simp; omega) ?_
      rintro v32 w31 ⟨a33, l33, c33, rfl, ho31, hu31, hb31⟩
      have d3 : 66 ≠ 38 := by decide
      have d6 : 47 ≠ 38 := by decide
      have same : ∀ b, b < w24.heap.size → ¬ Blk s.1 b → w31.heap[b]? = w30.heap[b]? := fun b hb hn => by rw [hu31.block b hb hn, hal30.grew.block b hb]
      have nlb : ¬ Blk s.1 x.lb := own_ne h24.heads hos2 d6 _ ⟨_, rfl, rfl⟩
      have nq : ¬ Blk s.1 x.q := h24.row.own_ne hos2 d3
      refine ⟨_, _, _, rfl, ⟨by rw [add_mk]; exact same _ blb nlb, same _ bq nq, same _ bq nq, trivial⟩, ?_⟩
      have key := h24.setLog (v' := (v.produce p r).1) rsD hp hs ho31 hu31 hb31 eparts elist hkf hkk
      rw [withSome]
      simp only [add_mk, Nat.mul_one, Nat.zero_add]
      refine ⟨⟨hp0, hlt⟩, key.1, fun w35 h35 => ⟨_, rfl, by rw [e0], (key.2 w35 h35).after hg24'⟩⟩
    refine ⟨_, _, rfl, fun hk => ?_, fun hk => ?_⟩
    · refine (RKeys_ok h11).use fun u w16 ⟨a18, l18, c18, hv, ho18, hg16⟩ => ?_
      subst hv
      have hl18 : l18 = v.keys.length := by rw [ho18.len, sortL_len]
      have hg16' := hg11'.trans hg16
      have hk64 := h.fits.keys.2.1
      refine ⟨_, _, _, rfl, fun h64 => ?_, fun h64 => ?_⟩
      · simp only [beq_iff_eq] at h64
        refine (With_ok (k := (keyOfB v.list r).1) (ho18.base (B' := w.heap.size) hg11'.size) hg16'.size (sortL_strict h.fits.keys.1) (by rw [sortL_len]; omega)).use fun u w20 ⟨a22, l22, c22, R, hv, ho20, hu20, hb20, hsR, hmR, hlR⟩ => ?_
        subst hv
        have hl22 : l22 = R.length := ho20.len
        have hg20 : Grew w w20 := hg16'.then_own hu20 fun b hb => Nat.le_trans hg11'.size (ho18.blk hb).1
        rw [sortL_len] at hlR
        refine ⟨_, _, _, rfl, fun hgt => ?_, fun hle => ?_⟩
        · simp only [decide_eq_true_eq, gt_iff_lt] at hgt
          have hni : (keyOfB v.list r).1 ∉ v.keys := fun hin => by rw [if_pos (sortL_mem.2 hin)] at hlR; omega
          have e : v.produce p r = (v, 62) := by unfold SrcV.produce; rw [hp]; simp only; rw [if_neg hlt256, if_pos hk, if_neg hni, if_pos (by omega)]
          rw [e]
          exact ⟨_, rfl, rfl, RSrcMoves.grew h hg20⟩
        · simp only [decide_eq_false_iff_not, gt_iff_lt] at hle
          have hin : (keyOfB v.list r).1 ∈ v.keys := Decidable.byContradiction fun hni => by rw [if_neg (fun h => hni (sortL_mem.1 h))] at hlR; omega
          have e : v.produce p r = (v.setP p (q.1 ++ [r], q.2), 0) := by unfold SrcV.produce; rw [hp]; simp only; rw [if_neg hlt256, if_pos hk, if_pos hin]
          exact push hg20 (by rw [e]) (by rw [e]; rfl) (by rw [e]; rfl)
      · simp only [beq_eq_false_iff_ne, ne_eq] at h64
        have e : (v.produce p r).2 = 0 ∧ (v.produce p r).1.parts = v.parts.set p.toNat (q.1 ++ [r], q.2) ∧ (v.produce p r).1.list = v.list := by
          unfold SrcV.produce; rw [hp]; simp only; rw [if_neg hlt256, if_pos hk]
          split
          · exact ⟨rfl, rfl, rfl⟩
          · rw [if_neg (by omega)]; exact ⟨rfl, rfl, rfl⟩
        exact push hg16' e.1 e.2.1 e.2.2
    · have hk' : ¬ (keyOfB v.list r).2 = true := by rw [hk]; simp
      have e : v.produce p r = (v.setP p (q.1 ++ [r], q.2), 0) := by unfold SrcV.produce; rw [hp]; simp only; rw [if_neg hlt256, if_neg hk']
      exact push hg11' (by rw [e]) (by rw [e]; rfl) (by rw [e]; rfl)
end Go.Proofs.YtifhpmmdfjmppaaGreat
