/- What the sort's parts hand back: the partitions. Conditions: none. -/
import Derived.Test.YtoljpkdokpinhaaProg
import Derived.Test.YtoljpkdokpinhaaSortA_U
namespace Go.Proofs.Ytoljpkdokpinhaa
open Go.Sx
set_option maxRecDepth 100000
set_option linter.unusedVariables false
set_option linter.unusedSimpArgs false
open Go.Sort

set_option maxHeartbeats 1000000 in
theorem part_U_ok {B : Nat} {p : Option Addr} {n c a b pv : Nat} {d : Array Int} {w : World} (h : Sr_U B p n c w d) (hap : a ≤ pv) (hpb : pv < b) (hb : b ≤ d.size) (hsz : d.size < 4611686018427387904) :
    CallsW Try.prog 89 [.slice p n c, .int .i64 a, .int .i64 b, .int .i64 pv] w (Rets (Srt_U B p n c w (.tuple #[.int .i64 (partition ltInt d a b pv).1, .bool (partition ltInt d a b pv).2.1]) (partition ltInt d a b pv).2.2)) := by
  refine sx89.ok ?_
  unfold sx89
  intro w1 hg1
  have h1 := h.grew hg1
  refine Ar.rd h1 (i := pv) rfl (by omega) fun q3 => Ar.rd h1 (i := a) rfl (by omega) fun q4 => Ar.st h1 (i := a) rfl (by omega) fun q5 w7 h7 hu7 => Ar.st h7 (i := pv) rfl (by simp; omega) fun q6 w9 h9 hu9 => ?_
  obtain ⟨d1, hd1⟩ : ∃ d1, d1 = swp d a pv := ⟨_, rfl⟩
  have h9 : Sr_U B p n c w9 d1 := by rw [hd1]; exact h9
  have hu9 : Upd (Blk p) w w9 := ((hg1.upd (S := Blk p)).trans hu7).trans hu9
  have hs1 : d1.size = d.size := by rw [hd1]; exact swp_size' d a pv
  have hpart : partition ltInt d a b pv = (if scanUp (fun x => ltInt x d1[a]!) d1 (b - 1) (a + 1) > scanDown (fun x => !ltInt x d1[a]!) d1 (scanUp (fun x => ltInt x d1[a]!) d1 (b - 1) (a + 1)) (b - 1) then (scanDown (fun x => !ltInt x d1[a]!) d1 (scanUp (fun x => ltInt x d1[a]!) d1 (b - 1) (a + 1)) (b - 1), true, swp d1 (scanDown (fun x => !ltInt x d1[a]!) d1 (scanUp (fun x => ltInt x d1[a]!) d1 (b - 1) (a + 1)) (b - 1)) a)
      else ((partLoop ltInt a (scanUp (fun x => ltInt x d1[a]!) d1 (b - 1) (a + 1) + 1) (scanDown (fun x => !ltInt x d1[a]!) d1 (scanUp (fun x => ltInt x d1[a]!) d1 (b - 1) (a + 1)) (b - 1) - 1) (swp d1 (scanUp (fun x => ltInt x d1[a]!) d1 (b - 1) (a + 1)) (scanDown (fun x => !ltInt x d1[a]!) d1 (scanUp (fun x => ltInt x d1[a]!) d1 (b - 1) (a + 1)) (b - 1)))).1, false,
        swp (partLoop ltInt a (scanUp (fun x => ltInt x d1[a]!) d1 (b - 1) (a + 1) + 1) (scanDown (fun x => !ltInt x d1[a]!) d1 (scanUp (fun x => ltInt x d1[a]!) d1 (b - 1) (a + 1)) (b - 1) - 1) (swp d1 (scanUp (fun x => ltInt x d1[a]!) d1 (b - 1) (a + 1)) (scanDown (fun x => !ltInt x d1[a]!) d1 (scanUp (fun x => ltInt x d1[a]!) d1 (b - 1) (a + 1)) (b - 1)))).2
          (partLoop ltInt a (scanUp (fun x => ltInt x d1[a]!) d1 (b - 1) (a + 1) + 1) (scanDown (fun x => !ltInt x d1[a]!) d1 (scanUp (fun x => ltInt x d1[a]!) d1 (b - 1) (a + 1)) (b - 1) - 1) (swp d1 (scanUp (fun x => ltInt x d1[a]!) d1 (b - 1) (a + 1)) (scanDown (fun x => !ltInt x d1[a]!) d1 (scanUp (fun x => ltInt x d1[a]!) d1 (b - 1) (a + 1)) (b - 1)))).1 a)) := by
    rw [hd1]; rfl
  have sU := scanUp_spec (fun x => ltInt x d1[a]!) d1 (b - 1) _ (a + 1) rfl
  obtain ⟨i0, hi0⟩ : ∃ i0, i0 = scanUp (fun x => ltInt x d1[a]!) d1 (b - 1) (a + 1) := ⟨_, rfl⟩
  rw [← hi0] at hpart sU
  have sD := scanDown_spec (fun x => !ltInt x d1[a]!) d1 i0 (b - 1)
  obtain ⟨j0, hj0⟩ : ∃ j0, j0 = scanDown (fun x => !ltInt x d1[a]!) d1 i0 (b - 1) := ⟨_, rfl⟩
  rw [← hj0] at hpart sD
  have e1 : IntKind.i64.wrap ((a : Int) + 1) = ((a + 1 : Nat) : Int) := by rw [IntKind.wrap_i64]; omega
  have e2 : IntKind.i64.wrap ((b : Int) - 1) = ((b - 1 : Nat) : Int) := by rw [IntKind.wrap_i64]; omega
  rw [e1, e2]
  refine ⟨fun x w' => x = (i0 : Nat) ∧ Sr_U B p n c w' d1 ∧ Upd (Blk p) w w', ⟨fun x w' => ∃ i : Nat, x = i ∧ a + 1 ≤ i ∧ i ≤ b ∧ scanUp (fun x => ltInt x d1[a]!) d1 (b - 1) i = i0 ∧ Sr_U B p n c w' d1 ∧ Upd (Blk p) w w', fun x _ => b - x.toNat, ⟨a + 1, rfl, Nat.le_refl _, by omega, hi0.symm, h9, hu9⟩, ?_⟩, ?_⟩
  · rintro x w13 ⟨i, rfl, hi, hib, he, h13, hu13⟩ w14 hg14
    have h14 := h13.grew hg14
    refine ⟨fun hle => ?_, fun hgt => ?_⟩
    · simp only [decide_eq_true_eq] at hle
      have e3 : IntKind.i64.wrap ((i : Int) + 1) = ((i + 1 : Nat) : Int) := by rw [IntKind.wrap_i64]; omega
      rw [e3]
      refine Ar.rd h14 (i := i) rfl (by omega) fun q1 => Ar.rd h14 (i := a) rfl (by omega) fun q2 => less_U_use ⟨_, rfl, sameB_refl _ _, fun hl => ?_, fun hl => ?_⟩
      · exact ⟨⟨i + 1, rfl, by omega, by omega, by rw [← he, scanUp_go (p := fun x => ltInt x d1[a]!) (by omega) hl], h14, hu13.then_grew hg14⟩, by show b - (((i + 1 : Nat) : Int)).toNat < b - ((i : Int)).toNat; omega⟩
      · rw [scanUp_end (p := fun x => ltInt x d1[a]!) (fun _ => hl)] at he
        exact ⟨by rw [he], h14, hu13.then_grew hg14⟩
    · simp only [decide_eq_false_iff_not] at hgt
      rw [scanUp_end (fun hh => by omega)] at he
      exact ⟨by rw [he], h14, hu13.then_grew hg14⟩
  rintro x w24 ⟨rfl, h24, hu24⟩
  refine ⟨fun x w' => x = (j0 : Nat) ∧ Sr_U B p n c w' d1 ∧ Upd (Blk p) w w', ⟨fun x w' => ∃ j : Nat, x = j ∧ j < b ∧ scanDown (fun x => !ltInt x d1[a]!) d1 i0 j = j0 ∧ Sr_U B p n c w' d1 ∧ Upd (Blk p) w w', fun x _ => x.toNat, ⟨b - 1, rfl, by omega, hj0.symm, h24, hu24⟩, ?_⟩, ?_⟩
  · rintro x w28 ⟨j, rfl, hjb, he, h28, hu28⟩ w29 hg29
    have h29 := h28.grew hg29
    refine ⟨fun hle => ?_, fun hgt => ?_⟩
    · simp only [decide_eq_true_eq] at hle
      have e3 : IntKind.i64.wrap ((j : Int) - 1) = ((j - 1 : Nat) : Int) := by rw [IntKind.wrap_i64]; omega
      rw [e3]
      refine Ar.rd h29 (i := j) rfl (by omega) fun q1 => Ar.rd h29 (i := a) rfl (by omega) fun q2 => less_U_use ⟨_, rfl, sameB_refl _ _, fun hl => ?_, fun hl => ?_⟩
      · exact ⟨⟨j - 1, rfl, by omega, by rw [← he, scanDown_go (p := fun x => !ltInt x d1[a]!) (by omega) (by omega) hl], h29, hu28.then_grew hg29⟩, by show (((j - 1 : Nat) : Int)).toNat < ((j : Int)).toNat; omega⟩
      · rw [scanDown_end (p := fun x => !ltInt x d1[a]!) (fun _ => hl)] at he
        exact ⟨by rw [he], h29, hu28.then_grew hg29⟩
    · simp only [decide_eq_false_iff_not] at hgt
      rw [scanDown_end (fun hh => by omega)] at he
      exact ⟨by rw [he], h29, hu28.then_grew hg29⟩
  rintro x w39 ⟨rfl, h39, hu39⟩
  refine ⟨fun hgt w40 hg40 => ?_, fun hle w49 hg49 => ?_⟩
  · simp only [decide_eq_true_eq] at hgt
    rw [if_pos (by omega)] at hpart
    have h40 := h39.grew hg40
    refine Ar.rd h40 (i := a) rfl (by omega) fun q3 => Ar.rd h40 (i := j0) rfl (by omega) fun q4 => Ar.st h40 (i := j0) rfl (by omega) fun q5 w46 h46 hu46 => Ar.st h46 (i := a) rfl (by simp; omega) fun q6 w48 h48 hu48 => ?_
    rw [hpart]
    exact ⟨_, rfl, rfl, h48, ((hu39.then_grew hg40).trans hu46).trans hu48⟩
  simp only [decide_eq_false_iff_not] at hle
  rw [if_neg (by omega)] at hpart
  obtain ⟨r, hr⟩ : ∃ r, r = partLoop ltInt a (i0 + 1) (j0 - 1) (swp d1 i0 j0) := ⟨_, rfl⟩
  rw [← hr] at hpart
  rw [hpart]
  have h49 := h39.grew hg49
  have hi0j : i0 ≤ j0 := by omega
  refine Ar.rd h49 (i := j0) rfl (by omega) fun q3 => Ar.rd h49 (i := i0) rfl (by omega) fun q4 => Ar.st h49 (i := i0) rfl (by omega) fun q5 w55 h55 hu55 => Ar.st h55 (i := j0) rfl (by simp; omega) fun q6 w57 h57 hu57 => ?_
  have hu57 := ((hu39.then_grew hg49).trans hu55).trans hu57
  have e3 : IntKind.i64.wrap ((i0 : Int) + 1) = ((i0 + 1 : Nat) : Int) := by rw [IntKind.wrap_i64]; omega
  have e4 : IntKind.i64.wrap ((j0 : Int) - 1) = ((j0 - 1 : Nat) : Int) := by rw [IntKind.wrap_i64]; omega
  rw [e3, e4]
  refine ⟨fun x y w' => ∃ (i j : Nat) (d' : Array Int), x = i ∧ y = j ∧ a + 1 ≤ i ∧ i ≤ b + 1 ∧ j < b ∧ d'.size = d.size ∧ Sr_U B p n c w' d' ∧ partLoop ltInt a i j d' = r ∧ Upd (Blk p) w w', fun x y _ => (b + 1 - x.toNat) + y.toNat, ⟨i0 + 1, j0 - 1, _, rfl, rfl, by omega, by omega, by omega, by rw [← hs1]; exact swp_size' d1 i0 j0, h57, hr.symm, hu57⟩, ?_⟩
  rintro x y w61 ⟨i, j, d2, rfl, rfl, hi, hib, hjb, hs2, h61, he, hu61⟩
  rw [partLoop_eq] at he
  have sU2 := scanUp_spec (fun x => ltInt x d2[a]!) d2 j _ i rfl
  obtain ⟨i2, hi2⟩ : ∃ i2, i2 = scanUp (fun x => ltInt x d2[a]!) d2 j i := ⟨_, rfl⟩
  rw [← hi2] at he sU2
  have sD2 := scanDown_spec (fun x => !ltInt x d2[a]!) d2 i2 j
  obtain ⟨j2, hj2⟩ : ∃ j2, j2 = scanDown (fun x => !ltInt x d2[a]!) d2 i2 j := ⟨_, rfl⟩
  rw [← hj2] at he sD2
  refine ⟨fun x w' => x = (i2 : Nat) ∧ Sr_U B p n c w' d2 ∧ Upd (Blk p) w w', ⟨fun x w' => ∃ k : Nat, x = k ∧ i ≤ k ∧ (k ≤ i ∨ k ≤ j + 1) ∧ scanUp (fun x => ltInt x d2[a]!) d2 j k = i2 ∧ Sr_U B p n c w' d2 ∧ Upd (Blk p) w w', fun x _ => j + 1 - x.toNat, ⟨i, rfl, Nat.le_refl _, .inl (Nat.le_refl _), hi2.symm, h61, hu61⟩, ?_⟩, ?_⟩
  · rintro x w65 ⟨k, rfl, hk, hkj, hek, h65, hu65⟩ w66 hg66
    have h66 := h65.grew hg66
    refine ⟨fun hle => ?_, fun hgt => ?_⟩
    · simp only [decide_eq_true_eq] at hle
      have e5 : IntKind.i64.wrap ((k : Int) + 1) = ((k + 1 : Nat) : Int) := by rw [IntKind.wrap_i64]; omega
      rw [e5]
      refine Ar.rd h66 (i := k) rfl (by omega) fun q1 => Ar.rd h66 (i := a) rfl (by omega) fun q2 => less_U_use ⟨_, rfl, sameB_refl _ _, fun hl => ?_, fun hl => ?_⟩
      · exact ⟨⟨k + 1, rfl, by omega, by omega, by rw [← hek, scanUp_go (p := fun x => ltInt x d2[a]!) (by omega) hl], h66, hu65.then_grew hg66⟩, by show j + 1 - (((k + 1 : Nat) : Int)).toNat < j + 1 - ((k : Int)).toNat; omega⟩
      · rw [scanUp_end (p := fun x => ltInt x d2[a]!) (fun _ => hl)] at hek
        exact ⟨by rw [hek], h66, hu65.then_grew hg66⟩
    · simp only [decide_eq_false_iff_not] at hgt
      rw [scanUp_end (fun hh => by omega)] at hek
      exact ⟨by rw [hek], h66, hu65.then_grew hg66⟩
  rintro x w76 ⟨rfl, h76, hu76⟩
  have hend : ∀ w', Sr_U B p n c w' d2 → Upd (Blk p) w w' → (((decide ((i2 : Int) > (j2 : Int))) = true → r = (j2, d2)) ∧ ((decide ((i2 : Int) > (j2 : Int))) = false → i2 ≤ j2 ∧ partLoop ltInt a (i2 + 1) (j2 - 1) (swp d2 i2 j2) = r)) := by
    intro w' _ _
    refine ⟨fun hh => ?_, fun hh => ?_⟩
    · simp only [decide_eq_true_eq] at hh
      rw [if_pos (by omega)] at he; exact he.symm
    · simp only [decide_eq_false_iff_not] at hh
      rw [if_neg (by omega)] at he; exact ⟨by omega, he⟩
  have hi2b : i ≤ i2 := sU2.1
  refine ⟨fun x w' => ∃ k : Nat, x = k ∧ k ≤ j ∧ scanDown (fun x => !ltInt x d2[a]!) d2 i2 k = j2 ∧ Sr_U B p n c w' d2 ∧ Upd (Blk p) w w', fun x _ => x.toNat, ⟨j, rfl, Nat.le_refl _, hj2.symm, h76, hu76⟩, ?_⟩
  rintro x w79 ⟨k, rfl, hkj, hek, h79, hu79⟩ w80 hg80
  have h80 := h79.grew hg80
  have hu80 := hu79.then_grew hg80
  refine ⟨fun hle => ?_, fun hgt => ?_⟩
  · simp only [decide_eq_true_eq] at hle
    have e5 : IntKind.i64.wrap ((k : Int) - 1) = ((k - 1 : Nat) : Int) := by rw [IntKind.wrap_i64]; omega
    rw [e5]
    refine Ar.rd h80 (i := k) rfl (by omega) fun q1 => Ar.rd h80 (i := a) rfl (by omega) fun q2 => less_U_use ⟨_, rfl, sameB_refl _ _, fun hl => ?_, fun hl => ?_⟩
    · exact ⟨⟨k - 1, rfl, by omega, by rw [← hek, scanDown_go (p := fun x => !ltInt x d2[a]!) (by omega) (by omega) hl], h80, hu80⟩, by show (((k - 1 : Nat) : Int)).toNat < ((k : Int)).toNat; omega⟩
    · rw [scanDown_end (p := fun x => !ltInt x d2[a]!) (fun _ => hl)] at hek
      subst hek
      refine ⟨fun hh => (by simp only [decide_eq_true_eq] at hh; omega), fun hh w98 hg98 => ?_⟩
      obtain ⟨hij, hpl⟩ := (hend w80 h80 hu80).2 hh
      have h98 := h80.grew hg98
      refine Ar.rd h98 (i := k) rfl (by omega) fun q3 => Ar.rd h98 (i := i2) rfl (by omega) fun q4 => Ar.st h98 (i := i2) rfl (by omega) fun q5 w104 h104 hu104 => Ar.st h104 (i := k) rfl (by simp; omega) fun q6 w106 h106 hu106 => ?_
      have e6 : IntKind.i64.wrap ((i2 : Int) + 1) = ((i2 + 1 : Nat) : Int) := by rw [IntKind.wrap_i64]; omega
      rw [e6]
      exact ⟨⟨i2 + 1, k - 1, _, rfl, rfl, by omega, by omega, by omega, by rw [← hs2]; exact swp_size' d2 i2 k, h106, hpl, ((hu80.then_grew hg98).trans hu104).trans hu106⟩, by show (b + 1 - (((i2 + 1 : Nat) : Int)).toNat) + (((k - 1 : Nat) : Int)).toNat < (b + 1 - ((i : Int)).toNat) + ((j : Int)).toNat; omega⟩
  · simp only [decide_eq_false_iff_not] at hgt
    rw [scanDown_end (fun hh => by omega)] at hek
    subst hek
    refine ⟨fun hh w107 hg107 => ?_, fun hh => (by simp only [decide_eq_false_iff_not] at hh; omega)⟩
    have hrr := (hend w80 h80 hu80).1 hh
    have h107 := h80.grew hg107
    refine Ar.rd h107 (i := a) rfl (by omega) fun q3 => Ar.rd h107 (i := k) rfl (by omega) fun q4 => Ar.st h107 (i := k) rfl (by omega) fun q5 w113 h113 hu113 => Ar.st h113 (i := a) rfl (by simp; omega) fun q6 w115 h115 hu115 => ?_
    rw [hrr]
    exact ⟨_, rfl, rfl, h115, ((hu80.then_grew hg107).trans hu113).trans hu115⟩

set_option maxHeartbeats 1000000 in
theorem parteq_U_ok {B : Nat} {p : Option Addr} {n c a b pv : Nat} {d : Array Int} {w : World} (h : Sr_U B p n c w d) (hap : a ≤ pv) (hpb : pv < b) (hb : b ≤ d.size) (hsz : d.size < 4611686018427387904) :
    CallsW Try.prog 88 [.slice p n c, .int .i64 a, .int .i64 b, .int .i64 pv] w (Rets (Srt_U B p n c w (.int .i64 (partitionEqual ltInt d a b pv).1) (partitionEqual ltInt d a b pv).2)) := by
  refine sx88.ok ?_
  unfold sx88
  intro w1 hg1
  have h1 := h.grew hg1
  refine Ar.rd h1 (i := pv) rfl (by omega) fun q3 => Ar.rd h1 (i := a) rfl (by omega) fun q4 => Ar.st h1 (i := a) rfl (by omega) fun q5 w7 h7 hu7 => Ar.st h7 (i := pv) rfl (by simp; omega) fun q6 w9 h9 hu9 => ?_
  obtain ⟨d1, hd1⟩ : ∃ d1, d1 = swp d a pv := ⟨_, rfl⟩
  have h9 : Sr_U B p n c w9 d1 := by rw [hd1]; exact h9
  have hu9 : Upd (Blk p) w w9 := ((hg1.upd (S := Blk p)).trans hu7).trans hu9
  have hs1 : d1.size = d.size := by rw [hd1]; exact swp_size' d a pv
  obtain ⟨r, hr⟩ : ∃ r, r = partEqLoop ltInt a (a + 1) (b - 1) d1 := ⟨_, rfl⟩
  have hpart : partitionEqual ltInt d a b pv = r := by rw [hr, hd1]; rfl
  rw [hpart]
  have e1 : IntKind.i64.wrap ((a : Int) + 1) = ((a + 1 : Nat) : Int) := by rw [IntKind.wrap_i64]; omega
  have e2 : IntKind.i64.wrap ((b : Int) - 1) = ((b - 1 : Nat) : Int) := by rw [IntKind.wrap_i64]; omega
  rw [e1, e2]
  refine ⟨fun x y w' => ∃ (i j : Nat) (d' : Array Int), x = i ∧ y = j ∧ a + 1 ≤ i ∧ i ≤ b + 1 ∧ j < b ∧ d'.size = d.size ∧ Sr_U B p n c w' d' ∧ partEqLoop ltInt a i j d' = r ∧ Upd (Blk p) w w', fun x y _ => (b + 1 - x.toNat) + y.toNat, ⟨a + 1, b - 1, _, rfl, rfl, by omega, by omega, by omega, hs1, h9, hr.symm, hu9⟩, ?_⟩
  rintro x y w61 ⟨i, j, d2, rfl, rfl, hi, hib, hjb, hs2, h61, he, hu61⟩
  rw [partEqLoop_eq] at he
  have sU2 := scanUp_spec (fun x => !ltInt d2[a]! x) d2 j _ i rfl
  obtain ⟨i2, hi2⟩ : ∃ i2, i2 = scanUp (fun x => !ltInt d2[a]! x) d2 j i := ⟨_, rfl⟩
  rw [← hi2] at he sU2
  have sD2 := scanDown_spec (fun x => ltInt d2[a]! x) d2 i2 j
  obtain ⟨j2, hj2⟩ : ∃ j2, j2 = scanDown (fun x => ltInt d2[a]! x) d2 i2 j := ⟨_, rfl⟩
  rw [← hj2] at he sD2
  refine ⟨fun x w' => x = (i2 : Nat) ∧ Sr_U B p n c w' d2 ∧ Upd (Blk p) w w', ⟨fun x w' => ∃ k : Nat, x = k ∧ i ≤ k ∧ (k ≤ i ∨ k ≤ j + 1) ∧ scanUp (fun x => !ltInt d2[a]! x) d2 j k = i2 ∧ Sr_U B p n c w' d2 ∧ Upd (Blk p) w w', fun x _ => j + 1 - x.toNat, ⟨i, rfl, Nat.le_refl _, .inl (Nat.le_refl _), hi2.symm, h61, hu61⟩, ?_⟩, ?_⟩
  · rintro x w65 ⟨k, rfl, hk, hkj, hek, h65, hu65⟩ w66 hg66
    have h66 := h65.grew hg66
    refine ⟨fun hle => ?_, fun hgt => ?_⟩
    · simp only [decide_eq_true_eq] at hle
      have e5 : IntKind.i64.wrap ((k : Int) + 1) = ((k + 1 : Nat) : Int) := by rw [IntKind.wrap_i64]; omega
      rw [e5]
      refine Ar.rd h66 (i := a) rfl (by omega) fun q1 => Ar.rd h66 (i := k) rfl (by omega) fun q2 => less_U_use ⟨_, rfl, sameB_refl _ _, fun hl => ?_, fun hl => ?_⟩
      · exact ⟨⟨k + 1, rfl, by omega, by omega, by rw [← hek, scanUp_go (p := fun x => !ltInt d2[a]! x) (by omega) hl], h66, hu65.then_grew hg66⟩, by show j + 1 - (((k + 1 : Nat) : Int)).toNat < j + 1 - ((k : Int)).toNat; omega⟩
      · rw [scanUp_end (p := fun x => !ltInt d2[a]! x) (fun _ => hl)] at hek
        exact ⟨by rw [hek], h66, hu65.then_grew hg66⟩
    · simp only [decide_eq_false_iff_not] at hgt
      rw [scanUp_end (fun hh => by omega)] at hek
      exact ⟨by rw [hek], h66, hu65.then_grew hg66⟩
  rintro x w76 ⟨rfl, h76, hu76⟩
  have hend : (((decide ((i2 : Int) > (j2 : Int))) = true → r = (i2, d2)) ∧ ((decide ((i2 : Int) > (j2 : Int))) = false → i2 ≤ j2 ∧ partEqLoop ltInt a (i2 + 1) (j2 - 1) (swp d2 i2 j2) = r)) := by
    refine ⟨fun hh => ?_, fun hh => ?_⟩
    · simp only [decide_eq_true_eq] at hh
      rw [if_pos (by omega)] at he; exact he.symm
    · simp only [decide_eq_false_iff_not] at hh
      rw [if_neg (by omega)] at he; exact ⟨by omega, he⟩
  have hi2b : i ≤ i2 := sU2.1
  refine ⟨fun x w' => ∃ k : Nat, x = k ∧ k ≤ j ∧ scanDown (fun x => ltInt d2[a]! x) d2 i2 k = j2 ∧ Sr_U B p n c w' d2 ∧ Upd (Blk p) w w', fun x _ => x.toNat, ⟨j, rfl, Nat.le_refl _, hj2.symm, h76, hu76⟩, ?_⟩
  rintro x w79 ⟨k, rfl, hkj, hek, h79, hu79⟩ w80 hg80
  have h80 := h79.grew hg80
  have hu80 := hu79.then_grew hg80
  refine ⟨fun hle => ?_, fun hgt => ?_⟩
  · simp only [decide_eq_true_eq] at hle
    have e5 : IntKind.i64.wrap ((k : Int) - 1) = ((k - 1 : Nat) : Int) := by rw [IntKind.wrap_i64]; omega
    rw [e5]
    refine Ar.rd h80 (i := a) rfl (by omega) fun q1 => Ar.rd h80 (i := k) rfl (by omega) fun q2 => less_U_use ⟨_, rfl, sameB_refl _ _, fun hl => ?_, fun hl => ?_⟩
    · exact ⟨⟨k - 1, rfl, by omega, by rw [← hek, scanDown_go (p := fun x => ltInt d2[a]! x) (by omega) (by omega) hl], h80, hu80⟩, by show (((k - 1 : Nat) : Int)).toNat < ((k : Int)).toNat; omega⟩
    · rw [scanDown_end (p := fun x => ltInt d2[a]! x) (fun _ => hl)] at hek
      subst hek
      refine ⟨fun hh => (by simp only [decide_eq_true_eq] at hh; omega), fun hh w98 hg98 => ?_⟩
      obtain ⟨hij, hpl⟩ := hend.2 hh
      have h98 := h80.grew hg98
      refine Ar.rd h98 (i := k) rfl (by omega) fun q3 => Ar.rd h98 (i := i2) rfl (by omega) fun q4 => Ar.st h98 (i := i2) rfl (by omega) fun q5 w104 h104 hu104 => Ar.st h104 (i := k) rfl (by simp; omega) fun q6 w106 h106 hu106 => ?_
      have e6 : IntKind.i64.wrap ((i2 : Int) + 1) = ((i2 + 1 : Nat) : Int) := by rw [IntKind.wrap_i64]; omega
      rw [e6]
      exact ⟨⟨i2 + 1, k - 1, _, rfl, rfl, by omega, by omega, by omega, by rw [← hs2]; exact swp_size' d2 i2 k, h106, hpl, ((hu80.then_grew hg98).trans hu104).trans hu106⟩, by show (b + 1 - (((i2 + 1 : Nat) : Int)).toNat) + (((k - 1 : Nat) : Int)).toNat < (b + 1 - ((i : Int)).toNat) + ((j : Int)).toNat; omega⟩
  · simp only [decide_eq_false_iff_not] at hgt
    rw [scanDown_end (fun hh => by omega)] at hek
    subst hek
    refine ⟨fun hh => ?_, fun hh => (by simp only [decide_eq_false_iff_not] at hh; omega)⟩
    have hrr := hend.1 hh
    rw [hrr]
    exact ⟨_, rfl, rfl, h80, hu80⟩
end Go.Proofs.Ytoljpkdokpinhaa
