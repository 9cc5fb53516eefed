/- What the sort's parts hand back: the partitions. Conditions: none. -/
import Derived.Test.YtcpkneemhfnanaaGreatProg
import Derived.Test.YtcpkneemhfnanaaGreatSortA_U
namespace Go.Proofs.YtcpkneemhfnanaaGreat
open Go.Sx
set_option maxRecDepth 100000
set_option linter.unusedVariables false
set_option linter.unusedSimpArgs false
open Go.Sort
set_option maxHeartbeats 1000000 in
theorem X6 {B : Nat} {p : Option Addr} {n c a b pv : Nat} {d : Array Int} {w : World} (h : Sr_U B p n c w d) (hap : a ≤ pv) (hpb : pv < b) (hb : b ≤ d.size) (hsz : d.size < 4611686018427387904) :
  Aa Tryz.prog 193 [.slice p n c, .int .i64 a, .int .i64 b, .int .i64 pv] w (Rets (O5 B p n c w (.tuple #[.int .i64 (partition ltInt d a b pv).1, .bool (partition ltInt d a b pv).2.1]) (partition ltInt d a b pv).2.2)) := by
 refine sx193.ok ?_
 unfold sx193
 intro w1 hg1
 have h1 := h.grew hg1
 refine Ar.rd h1 (i := pv) rfl (by omega) fun q3 => Ar.rd h1 (i := a) rfl (by omega) fun q4 => Ar.st h1 (i := a) rfl (by omega) fun q5 w7 h7 hu7 => Ar.st h7 (i := pv) rfl (by simp; omega) fun q6 w9 h9 hu9 => ?_
 obtain ⟨d1, hd1⟩ : ∃ d1, d1 = swp d a pv := ⟨_, rfl⟩
 have h9 : Sr_U B p n c w9 d1 := by rw [hd1]; exact h9
 have hu9 : Upd (Blk p) w w9 := ((hg1.upd (S := Blk p)).trans hu7).trans hu9
 have hs1 : d1.size = d.size := by rw [hd1]; exact Cb d a pv
 have hpart : partition ltInt d a b pv = (if scanUp (fun x => ltInt x d1[a]!) d1 (b - 1) (a + 1) > scanDown (fun x => !ltInt x d1[a]!) d1 (scanUp (fun x => ltInt x d1[a]!) d1 (b - 1) (a + 1)) (b - 1) then (scanDown (fun x => !ltInt x d1[a]!) d1 (scanUp (fun x => ltInt x d1[a]!) d1 (b - 1) (a + 1)) (b - 1), true, swp d1 (scanDown (fun x => !ltInt x d1[a]!) d1 (scanUp (fun x => ltInt x d1[a]!) d1 (b - 1) (a + 1)) (b - 1)) a)
   else ((partLoop ltInt a (scanUp (fun x => ltInt x d1[a]!) d1 (b - 1) (a + 1) + 1) (scanDown (fun x => !ltInt x d1[a]!) d1 (scanUp (fun x => ltInt x d1[a]!) d1 (b - 1) (a + 1)) (b - 1) - 1) (swp d1 (scanUp (fun x => ltInt x d1[a]!) d1 (b - 1) (a + 1)) (scanDown (fun x => !ltInt x d1[a]!) d1 (scanUp (fun x => ltInt x d1[a]!) d1 (b - 1) (a + 1)) (b - 1)))).1, false,
    swp (partLoop ltInt a (scanUp (fun x => ltInt x d1[a]!) d1 (b - 1) (a + 1) + 1) (scanDown (fun x => !ltInt x d1[a]!) d1 (scanUp (fun x => ltInt x d1[a]!) d1 (b - 1) (a + 1)) (b - 1) - 1) (swp d1 (scanUp (fun x => ltInt x d1[a]!) d1 (b - 1) (a + 1)) (scanDown (fun x => !ltInt x d1[a]!) d1 (scanUp (fun x => ltInt x d1[a]!) d1 (b - 1) (a + 1)) (b - 1)))).2
     (partLoop ltInt a (scanUp (fun x => ltInt x d1[a]!) d1 (b - 1) (a + 1) + 1) (scanDown (fun x => !ltInt x d1[a]!) d1 (scanUp (fun x => ltInt x d1[a]!) d1 (b - 1) (a + 1)) (b - 1) - 1) (swp d1 (scanUp (fun x => ltInt x d1[a]!) d1 (b - 1) (a + 1)) (scanDown (fun x => !ltInt x d1[a]!) d1 (scanUp (fun x => ltInt x d1[a]!) d1 (b - 1) (a + 1)) (b - 1)))).1 a)) := by
  rw [hd1]; rfl
 have sU := scanUp_spec (fun x => ltInt x d1[a]!) d1 (b - 1) _ (a + 1) rfl
 obtain ⟨i0, hi0⟩ : ∃ i0, i0 = scanUp (fun x => ltInt x d1[a]!) d1 (b - 1) (a + 1) := ⟨_, rfl⟩
 rw [← hi0] at hpart sU
 have sD := scanDown_spec (fun x => !ltInt x d1[a]!) d1 i0 (b - 1)
 obtain ⟨j0, hj0⟩ : ∃ j0, j0 = scanDown (fun x => !ltInt x d1[a]!) d1 i0 (b - 1) := ⟨_, rfl⟩
 rw [← hj0] at hpart sD
 have e1 : IntKind.i64.wrap ((a : Int) + 1) = ((a + 1 : Nat) : Int) := by rw [IntKind.wrap_i64]; omega
 have e2 : IntKind.i64.wrap ((b : Int) - 1) = ((b - 1 : Nat) : Int) := by rw [IntKind.wrap_i64]; omega
 rw [e1, e2]
 refine ⟨fun x w' => x = (i0 : Nat) ∧ Sr_U B p n c w' d1 ∧ Upd (Blk p) w w', ⟨fun x w' => ∃ i : Nat, x = i ∧ a + 1 ≤ i ∧ i ≤ b ∧ scanUp (fun x => ltInt x d1[a]!) d1 (b - 1) i = i0 ∧ Sr_U B p n c w' d1 ∧ Upd (Blk p) w w', fun x _ => b - x.toNat, ⟨a + 1, rfl, Nat.le_refl _, by omega, hi0.symm, h9, hu9⟩, ?_⟩, ?_⟩
 ·rintro x w13 ⟨i, rfl, hi, hib, he, h13, hu13⟩ w14 hg14
  have h14 := h13.grew hg14
  refine ⟨fun hle => ?_, fun hgt => ?_⟩
  ·simp only [decide_eq_true_eq] at hle
   have e3 : IntKind.i64.wrap ((i : Int) + 1) = ((i + 1 : Nat) : Int) := by rw [IntKind.wrap_i64]; omega
   rw [e3]
   refine Ar.rd h14 (i := i) rfl (by omega) fun q1 => Ar.rd h14 (i := a) rfl (by omega) fun q2 => Bw ⟨_, rfl, Cl _ _, fun hl => ?_, fun hl => ?_⟩
   ·exact ⟨⟨i + 1, rfl, by omega, by omega, by rw [← he, scanUp_go (p := fun x => ltInt x d1[a]!) (by omega) hl], h14, hu13.then_grew hg14⟩, by show b - (((i + 1 : Nat) : Int)).toNat < b - ((i : Int)).toNat; omega⟩
   ·rw [scanUp_end (p := fun x => ltInt x d1[a]!) (fun _ => hl)] at he
    exact ⟨by rw [he], h14, hu13.then_grew hg14⟩
  ·simp only [decide_eq_false_iff_not] at hgt
   rw [scanUp_end (fun hh => by omega)] at he
   exact ⟨by rw [he], h14, hu13.then_grew hg14⟩
 rintro x w24 ⟨rfl, h24, hu24⟩
 refine ⟨fun x w' => x = (j0 : Nat) ∧ Sr_U B p n c w' d1 ∧ Upd (Blk p) w w', ⟨fun x w' => ∃ j : Nat, x = j ∧ j < b ∧ scanDown (fun x => !ltInt x d1[a]!) d1 i0 j = j0 ∧ Sr_U B p n c w' d1 ∧ Upd (Blk p) w w', fun x _ => x.toNat, ⟨b - 1, rfl, by omega, hj0.symm, h24, hu24⟩, ?_⟩, ?_⟩
 ·rintro x w28 ⟨j, rfl, hjb, he, h28, hu28⟩ w29 hg29
  have h29 := h28.grew hg29
  refine ⟨fun hle => ?_, fun hgt => ?_⟩
  ·simp only [decide_eq_true_eq] at hle
   have e3 : IntKind.i64.wrap ((j : Int) - 1) = ((j - 1 : Nat) : Int) := by rw [IntKind.wrap_i64]; omega
   rw [e3]
   refine Ar.rd h29 (i := j) rfl (by omega) fun q1 => Ar.rd h29 (i := a) rfl (by omega) fun q2 => Bw ⟨_, rfl, Cl _ _, fun hl => ?_, fun hl => ?_⟩
   ·exact ⟨⟨j - 1, rfl, by omega, by rw [← he, scanDown_go (p := fun x => !ltInt x d1[a]!) (by omega) (by omega) hl], h29, hu28.then_grew hg29⟩, by show (((j - 1 : Nat) : Int)).toNat < ((j : Int)).toNat; omega⟩
   ·rw [scanDown_end (p := fun x => !ltInt x d1[a]!) (fun _ => hl)] at he
    exact ⟨by rw [he], h29, hu28.then_grew hg29⟩
  ·simp only [decide_eq_false_iff_not] at hgt
   rw [scanDown_end (fun hh => by omega)] at he
   exact ⟨by rw [he], h29, hu28.then_grew hg29⟩
 rintro x w39 ⟨rfl, h39, hu39⟩
 refine ⟨fun hgt w40 hg40 => ?_, fun hle w49 hg49 => ?_⟩
 ·simp only [decide_eq_true_eq] at hgt
  rw [if_pos (by omega)] at hpart
  have h40 := h39.grew hg40
  refine Ar.rd h40 (i := a) rfl (by omega) fun q3 => Ar.rd h40 (i := j0) rfl (by omega) fun q4 => Ar.st h40 (i := j0) rfl (by omega) fun q5 w46 h46 hu46 => Ar.st h46 (i := a) rfl (by simp; omega) fun q6 w48 h48 hu48 => ?_
  rw [hpart]
  exact ⟨_, rfl, rfl, h48, ((hu39.then_grew hg40).trans hu46).trans hu48⟩
 simp only [decide_eq_false_iff_not] at hle
 rw [if_neg (by omega)] at hpart
 obtain ⟨r, hr⟩ : ∃ r, r = partLoop ltInt a (i0 + 1) (j0 - 1) (swp d1 i0 j0) := ⟨_, rfl⟩
 rw [← hr] at hpart
 rw [hpart]
 have h49 := h39.grew hg49
 have hi0j : i0 ≤ j0 := by omega
 refine Ar.rd h49 (i := j0) rfl (by omega) fun q3 => Ar.rd h49 (i := i0) rfl (by omega) fun q4 => Ar.st h49 (i := i0) rfl (by omega) fun q5 w55 h55 hu55 => Ar.st h55 (i := j0) rfl (by simp; omega) fun q6 w57 h57 hu57 => ?_
 have hu57 := ((hu39.then_grew hg49).trans hu55).trans hu57
 have e3 : IntKind.i64.wrap ((i0 : Int) + 1) = ((i0 + 1 : Nat) : Int) := by rw [IntKind.wrap_i64]; omega
 have e4 : IntKind.i64.wrap ((j0 : Int) - 1) = ((j0 - 1 : Nat) : Int) := by rw [IntKind.wrap_i64]; omega
 rw [e3, e4]
 refine ⟨fun x y w' => ∃ (i j : Nat) (d' : Array Int), x = i ∧ y = j ∧ a + 1 ≤ i ∧ i ≤ b + 1 ∧ j < b ∧ d'.size = d.size ∧ Sr_U B p n c w' d' ∧ partLoop ltInt a i j d' = r ∧ Upd (Blk p) w w', fun x y _ => (b + 1 - x.toNat) + y.toNat, ⟨i0 + 1, j0 - 1, _, rfl, rfl, by omega, by omega, by omega, by rw [← hs1]; exact Cb d1 i0 j0, h57, hr.symm, hu57⟩, ?_⟩
 rintro x y w61 ⟨i, j, d2, rfl, rfl, hi, hib, hjb, hs2, h61, he, hu61⟩
 rw [partLoop_eq] at he
 have sU2 := scanUp_spec (fun x => ltInt x d2[a]!) d2 j _ i rfl
 obtain ⟨i2, hi2⟩ : ∃ i2, i2 = scanUp (fun x => ltInt x d2[a]!) d2 j i := ⟨_, rfl⟩
 rw [← hi2] at he sU2
 have sD2 := scanDown_spec (fun x => !ltInt x d2[a]!) d2 i2 j
 obtain ⟨j2, hj2⟩ : ∃ j2, j2 = scanDown (fun x => !ltInt x d2[a]!) d2 i2 j := ⟨_, rfl⟩
 rw [← hj2] at he sD2
 refine ⟨fun x w' => x = (i2 : Nat) ∧ Sr_U B p n c w' d2 ∧ Upd (Blk p) w w', ⟨fun x w' => ∃ k : Nat, x = k ∧ i ≤ k ∧ (k ≤ i ∨ k ≤ j + 1) ∧ scanUp (fun x => ltInt x d2[a]!) d2 j k = i2 ∧ Sr_U B p n c w' d2 ∧ Upd (Blk p) w w', fun x _ => j + 1 - x.toNat, ⟨i, rfl, Nat.le_refl _, .inl (Nat.le_refl _), hi2.symm, h61, hu61⟩, ?_⟩, ?_⟩
 ·rintro x w65 ⟨k, rfl, hk, hkj, hek, h65, hu65⟩ w66 hg66
  have h66 := h65.grew hg66
  refine ⟨fun hle => ?_, fun hgt => ?_⟩
  ·simp only [decide_eq_true_eq] at hle
   have e5 : IntKind.i64.wrap ((k : Int) + 1) = ((k + 1 : Nat) : Int) := by rw [IntKind.wrap_i64]; omega
   rw [e5]
   refine Ar.rd h66 (i := k) rfl (by omega) fun q1 => Ar.rd h66 (i := a) rfl (by omega) fun q2 => Bw ⟨_, rfl, Cl _ _, fun hl => ?_, fun hl => ?_⟩
   ·exact ⟨⟨k + 1, rfl, by omega, by omega, by rw [← hek, scanUp_go (p := fun x => ltInt x d2[a]!) (by omega) hl], h66, hu65.then_grew hg66⟩, by show j + 1 - (((k + 1 : Nat) : Int)).toNat < j + 1 - ((k : Int)).toNat; omega⟩
   ·rw [scanUp_end (p := fun x => ltInt x d2[a]!) (fun _ => hl)] at hek
    exact ⟨by rw [hek], h66, hu65.then_grew hg66⟩
  ·simp only [decide_eq_false_iff_not] at hgt
   rw [scanUp_end (fun hh => by omega)] at hek
   exact ⟨by rw [hek], h66, hu65.then_grew hg66⟩
 rintro x w76 ⟨rfl, h76, hu76⟩
 have hend : ∀ w', Sr_U B p n c w' d2 → Upd (Blk p) w w' → (((decide ((i2 : Int) > (j2 : Int))) = true → r = (j2, d2)) ∧ ((decide ((i2 : Int) > (j2 : Int))) = false → i2 ≤ j2 ∧ partLoop ltInt a (i2 + 1) (j2 - 1) (swp d2 i2 j2) = r)) := by
  intro w' _ _
  refine ⟨fun hh => ?_, fun hh => ?_⟩
  ·simp only [decide_eq_true_eq] at hh
   rw [if_pos (by omega)] at he; exact he.symm
  ·simp only [decide_eq_false_iff_not] at hh
   rw [if_neg (by omega)] at he; exact ⟨by omega, he⟩
 have hi2b : i ≤ i2 := sU2.1
 refine ⟨fun x w' => ∃ k : Nat, x = k ∧ k ≤ j ∧ scanDown (fun x => !ltInt x d2[a]!) d2 i2 k = j2 ∧ Sr_U B p n c w' d2 ∧ Upd (Blk p) w w', fun x _ => x.toNat, ⟨j, rfl, Nat.le_refl _, hj2.symm, h76, hu76⟩, ?_⟩
 rintro x w79 ⟨k, rfl, hkj, hek, h79, hu79⟩ w80 hg80
 have h80 := h79.grew hg80
 have hu80 := hu79.then_grew hg80
 refine ⟨fun hle => ?_, fun hgt => ?_⟩
 ·simp only [decide_eq_true_eq] at hle
  have e5 : IntKind.i64.wrap ((k : Int) - 1) = ((k - 1 : Nat) : Int) := by rw [IntKind.wrap_i64]; omega
  rw [e5]
  refine Ar.rd h80 (i := k) rfl (by omega) fun q1 => Ar.rd h80 (i := a) rfl (by omega) fun q2 => Bw ⟨_, rfl, Cl _ _, fun hl => ?_, fun hl => ?_⟩
  ·exact ⟨⟨k - 1, rfl, by omega, by rw [← hek, scanDown_go (p := fun x => !ltInt x d2[a]!) (by omega) (by omega) hl], h80, hu80⟩, by show (((k - 1 : Nat) : Int)).toNat < ((k : Int)).toNat; omega⟩
  ·rw [scanDown_end (p := fun x => !ltInt x d2[a]!) (fun _ => hl)] at hek
   subst hek
   refine ⟨fun hh => (by simp only [decide_eq_true_eq] at hh; omega), fun hh w98 hg98 => ?_⟩
   obtain ⟨hij, hpl⟩ := (hend w80 h80 hu80).2 hh
   have h98 := h80.grew hg98
   refine Ar.rd h98 (i := k) rfl (by omega) fun q3 => Ar.rd h98 (i := i2) rfl (by omega) fun q4 => Ar.st h98 (i := i2) rfl (by omega) fun q5 w104 h104 hu104 => Ar.st h104 (i := k) rfl (by simp; omega) fun q6 w106 h106 hu106 => ?_
   have e6 : IntKind.i64.wrap ((i2 : Int) + 1) = ((i2 + 1 : Nat) : Int) := by rw [IntKind.wrap_i64]; omega
   rw [e6]
   exact ⟨⟨i2 + 1, k - 1, _, rfl, rfl, by omega, by omega, by omega, by rw [← hs2]; exact Cb d2 i2 k, h106, hpl, ((hu80.then_grew hg98).trans hu104).trans hu106⟩, by show (b + 1 - (((i2 + 1 : Nat) : Int)).toNat) + (((k - 1 : Nat) : Int)).toNat < (b + 1 - ((i : Int)).toNat) + ((j : Int)).toNat; omega⟩
 ·simp only [decide_eq_false_iff_not] at hgt
  rw [scanDown_end (fun hh => by omega)] at hek
  subst hek
  refine ⟨fun hh w107 hg107 => ?_, fun hh => (by simp only [decide_eq_false_iff_not] at hh; omega)⟩
  have hrr := (hend w80 h80 hu80).1 hh
  have h107 := h80.grew hg107
  refine Ar.rd h107 (i := a) rfl (by omega) fun q3 => Ar.rd h107 (i := k) rfl (by omega) fun q4 => Ar.st h107 (i := k) rfl (by omega) fun q5 w113 h113 hu113 => Ar.st h113 (i := a) rfl (by simp; omega) fun q6 w115 h115 hu115 => ?_
  rw [hrr]
  exact ⟨_, rfl, rfl, h115, ((hu80.then_grew hg107).trans hu113).trans hu115⟩
set_option maxHeartbeats 1000000 in
theorem Tm {B : Nat} {p : Option Addr} {n c a b pv : Nat} {d : Array Int} {w : World} (h : Sr_U B p n c w d) (hap : a ≤ pv) (hpb : pv < b) (hb : b ≤ d.size) (hsz : d.size < 4611686018427387904) :
  Aa Tryz.prog 192 [.slice p n c, .int .i64 a, .int .i64 b, .int .i64 pv] w (Rets (O5 B p n c w (.int .i64 (partitionEqual ltInt d a b pv).1) (partitionEqual ltInt d a b pv).2)) := by
 refine sx192.ok ?_
 unfold sx192
 intro w1 hg1
 have h1 := h.grew hg1
 refine Ar.rd h1 (i := pv) rfl (by omega) fun q3 => Ar.rd h1 (i := a) rfl (by omega) fun q4 => Ar.st h1 (i := a) rfl (by omega) fun q5 w7 h7 hu7 => Ar.st h7 (i := pv) rfl (by simp; omega) fun q6 w9 h9 hu9 => ?_
 obtain ⟨d1, hd1⟩ : ∃ d1, d1 = swp d a pv := ⟨_, rfl⟩
 have h9 : Sr_U B p n c w9 d1 := by rw [hd1]; exact h9
 have hu9 : Upd (Blk p) w w9 := ((hg1.upd (S := Blk p)).trans hu7).trans hu9
 have hs1 : d1.size = d.size := by rw [hd1]; exact Cb d a pv
 obtain ⟨r, hr⟩ : ∃ r, r = partEqLoop ltInt a (a + 1) (b - 1) d1 := ⟨_, rfl⟩
 have hpart : partitionEqual ltInt d a b pv = r := by rw [hr, hd1]; rfl
 rw [hpart]
 have e1 : IntKind.i64.wrap ((a : Int) + 1) = ((a + 1 : Nat) : Int) := by rw [IntKind.wrap_i64]; omega
 have e2 : IntKind.i64.wrap ((b : Int) - 1) = ((b - 1 : Nat) : Int) := by rw [IntKind.wrap_i64]; omega
 rw [e1, e2]
 refine ⟨fun x y w' => ∃ (i j : Nat) (d' : Array Int), x = i ∧ y = j ∧ a + 1 ≤ i ∧ i ≤ b + 1 ∧ j < b ∧ d'.size = d.size ∧ Sr_U B p n c w' d' ∧ partEqLoop ltInt a i j d' = r ∧ Upd (Blk p) w w', fun x y _ => (b + 1 - x.toNat) + y.toNat, ⟨a + 1, b - 1, _, rfl, rfl, by omega, by omega, by omega, hs1, h9, hr.symm, hu9⟩, ?_⟩
 rintro x y w61 ⟨i, j, d2, rfl, rfl, hi, hib, hjb, hs2, h61, he, hu61⟩
 rw [partEqLoop_eq] at he
 have sU2 := scanUp_spec (fun x => !ltInt d2[a]! x) d2 j _ i rfl
 obtain ⟨i2, hi2⟩ : ∃ i2, i2 = scanUp (fun x => !ltInt d2[a]! x) d2 j i := ⟨_, rfl⟩
 rw [← hi2] at he sU2
 have sD2 := scanDown_spec (fun x => ltInt d2[a]! x) d2 i2 j
 obtain ⟨j2, hj2⟩ : ∃ j2, j2 = scanDown (fun x => ltInt d2[a]! x) d2 i2 j := ⟨_, rfl⟩
 rw [← hj2] at he sD2
 refine ⟨fun x w' => x = (i2 : Nat) ∧ Sr_U B p n c w' d2 ∧ Upd (Blk p) w w', ⟨fun x w' => ∃ k : Nat, x = k ∧ i ≤ k ∧ (k ≤ i ∨ k ≤ j + 1) ∧ scanUp (fun x => !ltInt d2[a]! x) d2 j k = i2 ∧ Sr_U B p n c w' d2 ∧ Upd (Blk p) w w', fun x _ => j + 1 - x.toNat, ⟨i, rfl, Nat.le_refl _, .inl (Nat.le_refl _), hi2.symm, h61, hu61⟩, ?_⟩, ?_⟩
 ·rintro x w65 ⟨k, rfl, hk, hkj, hek, h65, hu65⟩ w66 hg66
  have h66 := h65.grew hg66
  refine ⟨fun hle => ?_, fun hgt => ?_⟩
  ·simp only [decide_eq_true_eq] at hle
   have e5 : IntKind.i64.wrap ((k : Int) + 1) = ((k + 1 : Nat) : Int) := by rw [IntKind.wrap_i64]; omega
   rw [e5]
   refine Ar.rd h66 (i := a) rfl (by omega) fun q1 => Ar.rd h66 (i := k) rfl (by omega) fun q2 => Bw ⟨_, rfl, Cl _ _, fun hl => ?_, fun hl => ?_⟩
   ·exact ⟨⟨k + 1, rfl, by omega, by omega, by rw [← hek, scanUp_go (p := fun x => !ltInt d2[a]! x) (by omega) hl], h66, hu65.then_grew hg66⟩, by show j + 1 - (((k + 1 : Nat) : Int)).toNat < j + 1 - ((k : Int)).toNat; omega⟩
   ·rw [scanUp_end (p := fun x => !ltInt d2[a]! x) (fun _ => hl)] at hek
    exact ⟨by rw [hek], h66, hu65.then_grew hg66⟩
  ·simp only [decide_eq_false_iff_not] at hgt
   rw [scanUp_end (fun hh => by omega)] at hek
   exact ⟨by rw [hek], h66, hu65.then_grew hg66⟩
 rintro x w76 ⟨rfl, h76, hu76⟩
 have hend : (((decide ((i2 : Int) > (j2 : Int))) = true → r = (i2, d2)) ∧ ((decide ((i2 : Int) > (j2 : Int))) = false → i2 ≤ j2 ∧ partEqLoop ltInt a (i2 + 1) (j2 - 1) (swp d2 i2 j2) = r)) := by
  refine ⟨fun hh => ?_, fun hh => ?_⟩
  ·simp only [decide_eq_true_eq] at hh
   rw [if_pos (by omega)] at he; exact he.symm
  ·simp only [decide_eq_false_iff_not] at hh
   rw [if_neg (by omega)] at he; exact ⟨by omega, he⟩
 have hi2b : i ≤ i2 := sU2.1
 refine ⟨fun x w' => ∃ k : Nat, x = k ∧ k ≤ j ∧ scanDown (fun x => ltInt d2[a]! x) d2 i2 k = j2 ∧ Sr_U B p n c w' d2 ∧ Upd (Blk p) w w', fun x _ => x.toNat, ⟨j, rfl, Nat.le_refl _, hj2.symm, h76, hu76⟩, ?_⟩
 rintro x w79 ⟨k, rfl, hkj, hek, h79, hu79⟩ w80 hg80
 have h80 := h79.grew hg80
 have hu80 := hu79.then_grew hg80
 refine ⟨fun hle => ?_, fun hgt => ?_⟩
 ·simp only [decide_eq_true_eq] at hle
  have e5 : IntKind.i64.wrap ((k : Int) - 1) = ((k - 1 : Nat) : Int) := by rw [IntKind.wrap_i64]; omega
  rw [e5]
  refine Ar.rd h80 (i := a) rfl (by omega) fun q1 => Ar.rd h80 (i := k) rfl (by omega) fun q2 => Bw ⟨_, rfl, Cl _ _, fun hl => ?_, fun hl => ?_⟩
  ·exact ⟨⟨k - 1, rfl, by omega, by rw [← hek, scanDown_go (p := fun x => ltInt d2[a]! x) (by omega) (by omega) hl], h80, hu80⟩, by show (((k - 1 : Nat) : Int)).toNat < ((k : Int)).toNat; omega⟩
  ·rw [scanDown_end (p := fun x => ltInt d2[a]! x) (fun _ => hl)] at hek
   subst hek
   refine ⟨fun hh => (by simp only [decide_eq_true_eq] at hh; omega), fun hh w98 hg98 => ?_⟩
   obtain ⟨hij, hpl⟩ := hend.2 hh
   have h98 := h80.grew hg98
   refine Ar.rd h98 (i := k) rfl (by omega) fun q3 => Ar.rd h98 (i := i2) rfl (by omega) fun q4 => Ar.st h98 (i := i2) rfl (by omega) fun q5 w104 h104 hu104 => Ar.st h104 (i := k) rfl (by simp; omega) fun q6 w106 h106 hu106 => ?_
   have e6 : IntKind.i64.wrap ((i2 : Int) + 1) = ((i2 + 1 : Nat) : Int) := by rw [IntKind.wrap_i64]; omega
   rw [e6]
   exact ⟨⟨i2 + 1, k - 1, _, rfl, rfl, by omega, by omega, by omega, by rw [← hs2]; exact Cb d2 i2 k, h106, hpl, ((hu80.then_grew hg98).trans hu104).trans hu106⟩, by show (b + 1 - (((i2 + 1 : Nat) : Int)).toNat) + (((k - 1 : Nat) : Int)).toNat < (b + 1 - ((i : Int)).toNat) + ((j : Int)).toNat; omega⟩
 ·simp only [decide_eq_false_iff_not] at hgt
  rw [scanDown_end (fun hh => by omega)] at hek
  subst hek
  refine ⟨fun hh => ?_, fun hh => (by simp only [decide_eq_false_iff_not] at hh; omega)⟩
  have hrr := hend.1 hh
  rw [hrr]
  exact ⟨_, rfl, rfl, h80, hu80⟩
end Go.Proofs.YtcpkneemhfnanaaGreat
namespace Go.Proofs.YtcpkneemhfnanaaGreat
open Go.Sx
set_option maxRecDepth 100000
set_option linter.unusedVariables false
set_option linter.unusedSimpArgs false
def sx190 (d : Option Addr) (d_n d_c : Nat) (i p2 : Int) (R : Ending → World → Prop) (w : World) : Prop :=
  ∃ (I1 : Int → Int → World → Prop) (m1 : Int → Int → World → Nat), I1 (IntKind.i64.wrap (i + 1)) 0 w ∧ ∀ n2 n3 w4, I1 n2 n3 w4 → ifB (decide (n3 < 5)) (∃ J5 : Int → World → Prop, (∃ (I6 : Int → World → Prop) (m6 : Int → World → Nat), I6 n2 w4 ∧ ∀ n7 w8, I6 n7 w8 → ∀ w9, Grew w8 w9 → ifB (decide (n7 < p2)) (Ab d (fun d10 => (0 ≤ n7 ∧ n7 < (d_n : Nat)) ∧ ∃ n11, w9.cell? (Addr.add d10 (n7.toNat * 1)) = some (.int .u64 n11) ∧ Ab d (fun d12 => (0 ≤ (IntKind.i64.wrap (n7 - 1)) ∧ (IntKind.i64.wrap (n7 - 1)) < (d_n : Nat)) ∧ ∃ n13, w9.cell? (Addr.add d12 ((IntKind.i64.wrap (n7 - 1)).toNat * 1)) = some (.int .u64 n13) ∧ Aa Tryz.prog 191 [.int .u64 n11, .int .u64 n13] w9 (RetR R fun u15 w14 => ∃ b16, u15 = .bool b16 ∧ Ad w9 w14 [(Addr.add d12 ((IntKind.i64.wrap (n7 - 1)).toNat * 1)), (Addr.add d10 (n7.toNat * 1))] ∧ ifB (!b16) ((I6 (IntKind.i64.wrap (n7 + 1)) w14 ∧ m6 (IntKind.i64.wrap (n7 + 1)) w14 < m6 n7 w8)) (J5 n7 w14))))) (J5 n7 w9)) ∧ ∀ n18 w19, J5 n18 w19 → ifB (n18 == p2) (R (.returned (.bool true)) w19) (ifB (decide ((IntKind.i64.wrap (p2 - i)) < 50)) (R (.returned (.bool false)) w19) (∀ w20, Grew w19 w20 → Ab d (fun d21 => (0 ≤ (IntKind.i64.wrap (n18 - 1)) ∧ (IntKind.i64.wrap (n18 - 1)) < (d_n : Nat)) ∧ ∃ n22, w20.cell? (Addr.add d21 ((IntKind.i64.wrap (n18 - 1)).toNat * 1)) = some (.int .u64 n22) ∧ Ab d (fun d23 => (0 ≤ n18 ∧ n18 < (d_n : Nat)) ∧ ∃ n24, w20.cell? (Addr.add d23 (n18.toNat * 1)) = some (.int .u64 n24) ∧ Ab d (fun d25 => (0 ≤ n18 ∧ n18 < (d_n : Nat)) ∧ Af w20 (Addr.add d25 (n18.toNat * 1)) 0 [.int .u64 n22] ∧ ∀ w26, w26 = setCells w20 (Addr.add d25 (n18.toNat * 1)) 0 [.int .u64 n22] → Ab d (fun d27 => (0 ≤ (IntKind.i64.wrap (n18 - 1)) ∧ (IntKind.i64.wrap (n18 - 1)) < (d_n : Nat)) ∧ Af w26 (Addr.add d27 ((IntKind.i64.wrap (n18 - 1)).toNat * 1)) 0 [.int .u64 n24] ∧ ∀ w28, w28 = setCells w26 (Addr.add d27 ((IntKind.i64.wrap (n18 - 1)).toNat * 1)) 0 [.int .u64 n24] → ∃ J29 : World → Prop, (ifB (decide ((IntKind.i64.wrap (n18 - i)) ≥ 2)) (∃ (I30 : Int → World → Prop) (m30 : Int → World → Nat), I30 (IntKind.i64.wrap (n18 - 1)) w28 ∧ ∀ n31 w32, I30 n31 w32 → ifB (decide (n31 ≥ 1)) (∀ w33, Grew w32 w33 → Ab d (fun d34 => (0 ≤ n31 ∧ n31 < (d_n : Nat)) ∧ ∃ n35, w33.cell? (Addr.add d34 (n31.toNat * 1)) = some (.int .u64 n35) ∧ Ab d (fun d36 => (0 ≤ (IntKind.i64.wrap (n31 - 1)) ∧ (IntKind.i64.wrap (n31 - 1)) < (d_n : Nat)) ∧ ∃ n37, w33.cell? (Addr.add d36 ((IntKind.i64.wrap (n31 - 1)).toNat * 1)) = some (.int .u64 n37) ∧ Aa Tryz.prog 191 [.int .u64 n35, .int .u64 n37] w33 (RetR R fun u39 w38 => ∃ b40, u39 = .bool b40 ∧ ifB (!b40) (J29 w38) (∀ w42, Grew w38 w42 → Ab d (fun d43 => (0 ≤ (IntKind.i64.wrap (n31 - 1)) ∧ (IntKind.i64.wrap (n31 - 1)) < (d_n : Nat)) ∧ ∃ n44, w42.cell? (Addr.add d43 ((IntKind.i64.wrap (n31 - 1)).toNat * 1)) = some (.int .u64 n44) ∧ Ab d (fun d45 => (0 ≤ n31 ∧ n31 < (d_n : Nat)) ∧ ∃ n46, w42.cell? (Addr.add d45 (n31.toNat * 1)) = some (.int .u64
 n46) ∧ Ab d (fun d47 => (0 ≤ n31 ∧ n31 < (d_n : Nat)) ∧ Af w42 (Addr.add d47 (n31.toNat * 1)) 0 [.int .u64 n44] ∧ ∀ w48, w48 = setCells w42 (Addr.add d47 (n31.toNat * 1)) 0 [.int .u64 n44] → Ab d (fun d49 => (0 ≤ (IntKind.i64.wrap (n31 - 1)) ∧ (IntKind.i64.wrap (n31 - 1)) < (d_n : Nat)) ∧ Af w48 (Addr.add d49 ((IntKind.i64.wrap (n31 - 1)).toNat * 1)) 0 [.int .u64 n46] ∧ ∀ w50, w50 = setCells w48 (Addr.add d49 ((IntKind.i64.wrap (n31 - 1)).toNat * 1)) 0 [.int .u64 n46] → (I30 (IntKind.i64.wrap (n31 - 1)) w50 ∧ m30 (IntKind.i64.wrap (n31 - 1)) w50 < m30 n31 w32)))))))))) (J29 w32)) (J29 w28)) ∧ ∀ w51, J29 w51 → ∀ n52 : Int, n52 = IntKind.i64.wrap (p2 - n18) → ifB (decide (n52 ≥ 2)) (∃ (I53 : Int → World → Prop) (m53 : Int → World → Nat), I53 (IntKind.i64.wrap (n18 + 1)) w51 ∧ ∀ n54 w55, I53 n54 w55 → ifB (decide (n54 < p2)) (∀ w56, Grew w55 w56 → Ab d (fun d57 => (0 ≤ n54 ∧ n54 < (d_n : Nat)) ∧ ∃ n58, w56.cell? (Addr.add d57 (n54.toNat * 1)) = some (.int .u64 n58) ∧ Ab d (fun d59 => (0 ≤ (IntKind.i64.wrap (n54 - 1)) ∧ (IntKind.i64.wrap (n54 - 1)) < (d_n : Nat)) ∧ ∃ n60, w56.cell? (Addr.add d59 ((IntKind.i64.wrap (n54 - 1)).toNat * 1)) = some (.int .u64 n60) ∧ Aa Tryz.prog 191 [.int .u64 n58, .int .u64 n60] w56 (RetR R fun u62 w61 => ∃ b63, u62 = .bool b63 ∧ ifB (!b63) ((I1 n18 (IntKind.i64.wrap (n3 + 1)) w61 ∧ m1 n18 (IntKind.i64.wrap (n3 + 1)) w61 < m1 n2 n3 w4)) (∀ w65, Grew w61 w65 → Ab d (fun d66 => (0 ≤ (IntKind.i64.wrap (n54 - 1)) ∧ (IntKind.i64.wrap (n54 - 1)) < (d_n : Nat)) ∧ ∃ n67, w65.cell? (Addr.add d66 ((IntKind.i64.wrap (n54 - 1)).toNat * 1)) = some (.int .u64 n67) ∧ Ab d (fun d68 => (0 ≤ n54 ∧ n54 < (d_n : Nat)) ∧ ∃ n69, w65.cell? (Addr.add d68 (n54.toNat * 1)) = some (.int .u64 n69) ∧ Ab d (fun d70 => (0 ≤ n54 ∧ n54 < (d_n : Nat)) ∧ Af w65 (Addr.add d70 (n54.toNat * 1)) 0 [.int .u64 n67] ∧ ∀ w71, w71 = setCells w65 (Addr.add d70 (n54.toNat * 1)) 0 [.int .u64 n67] → Ab d (fun d72 => (0 ≤ (IntKind.i64.wrap (n54 - 1)) ∧ (IntKind.i64.wrap (n54 - 1)) < (d_n : Nat)) ∧ Af w71 (Addr.add d72 ((IntKind.i64.wrap (n54 - 1)).toNat * 1)) 0 [.int .u64 n69] ∧ ∀ w73, w73 = setCells w71 (Addr.add d72 ((IntKind.i64.wrap (n54 - 1)).toNat * 1)) 0 [.int .u64 n69] → (I53 (IntKind.i64.wrap (n54 + 1)) w73 ∧ m53 (IntKind.i64.wrap (n54 + 1)) w73 < m53 n54 w55)))))))))) ((I1 n18 (IntKind.i64.wrap (n3 + 1)) w55 ∧ m1 n18 (IntKind.i64.wrap (n3 + 1)) w55 < m1 n2 n3 w4))) ((I1 n18 (IntKind.i64.wrap (n3 + 1)) w51 ∧ m1 n18 (IntKind.i64.wrap (n3 + 1)) w51 < m1 n2 n3 w4))))))))) (R (.returned (.bool false)) w4)
theorem sx190.ok {d : Option Addr} {d_n d_c : Nat} {i p2 : Int} {R : Ending → World → Prop} {w : World} (h : sx190 d d_n d_c i p2 R w) : Aa Tryz.prog 190 [.slice d d_n d_c, .int .i64 i, .int .i64 p2] w R :=
 okOf { named := [97], draws := [(5, { order := (ol [0,1,2,3,4,5,6,7,8,9,10,11,12,13,14,15] .nil), bars := [] }), (11, { order := (ol [0,1,2,3,4,5,6,7,8,9,10,11,12,13,14,15,16,17] .nil), bars := [15, 17] }), (16, { order := (ol [0,1,2,3,4,5,6,7,8,9,10] .nil), bars := [9] }), (17, { order := (ol [0,1,2,3,4,5,6,7,8,9,10,11,12,13,14,15,16,17] .nil), bars := [15, 17] }), (22, { order := (ol [0,1,2,3,4,5,6,7,8,9,10] .nil), bars := [9] }), (23, { order := (ol [0,1,2,3,4,5,6,7,8,9,10,11,12,13,14,15,16,17] .nil), bars := [15, 17] })], loops := [(5, { slots := [(7, .int .i64)], cells := [] }), (14, { slots := [(9, .int .i64)], cells := [] }), (20, { slots := [(10, .int .i64)], cells := [] }), (3003, { slots := [(7, .int .i64), (8, .int .i64)], cells := [] })], cuts := [(7, { slots := [(7, .int .i64)], cells := [] }), (18, { slots := [], cells := [] })] } mix Tryz.func190 (by kernel_rfl) (by kernel_rfl) (by kernel_rfl) h
def sx208 (data : Option Addr) (data_n data_c : Nat) (a b : Int) (swaps : Nat) (R : Ending → World → Prop) (w : World) : Prop :=
 ∀ w1, Grew w w1 → Ab data (fun d2 => (0 ≤ b ∧ b < (data_n : Nat)) ∧ ∃ n3, w1.cell? (Addr.add d2 (b.toNat * 1)) = some (.int .u64 n3) ∧ Ab data (fun d4 => (0 ≤ a ∧ a < (data_n : Nat)) ∧ ∃ n5, w1.cell? (Addr.add d4 (a.toNat * 1)) = some (.int .u64 n5) ∧ Aa Tryz.prog 191 [.int .u64 n3, .int .u64 n5] w1 (RetR R fun u7 w6 => ∃ b8, u7 = .bool b8 ∧ ifB b8 (∃ n10, w6.cell? ⟨swaps, 0, none⟩ = some (.int .i64 n10) ∧ Af w6 ⟨swaps, 0, none⟩ 0 [.int .i64 (IntKind.i64.wrap (n10 + 1))] ∧ ∀ w11, w11 = setCells w6 ⟨swaps, 0, none⟩ 0 [.int .i64 (IntKind.i64.wrap (n10 + 1))] → R (.returned (.tuple #[.int .i64 b, .int .i64 a])) w11) (R (.returned (.tuple #[.int .i64 a, .int .i64 b])) w6))))
theorem sx208.ok {data : Option Addr} {data_n data_c : Nat} {a b : Int} {swaps : Nat} {R : Ending → World → Prop} {w : World} (h : sx208 data data_n data_c a b swaps R w) : Aa Tryz.prog 208 [.slice data data_n data_c, .int .i64 a, .int .i64 b, .pointer (some ⟨swaps, 0, none⟩)] w R :=
 okOf { draws := [(1, { order := (ol [0,1,2,3,4,5,6,7,8] .nil), bars := [8] })] } mix Tryz.func208 (by kernel_rfl) (by kernel_rfl) (by kernel_rfl) h
def sx203 (data : Option Addr) (data_n data_c : Nat) (a b c : Int) (swaps : Nat) (R : Ending → World → Prop) (w : World) : Prop :=
 Aa Tryz.prog 208 [.slice data data_n data_c, .int .i64 a, .int .i64 b, .pointer (some ⟨swaps, 0, none⟩)] w (RetR R fun u2 w1 => ∃ n3 n4, u2 = .tuple #[.int .i64 n3, .int .i64 n4] ∧ Aa Tryz.prog 208 [.slice data data_n data_c, .int .i64 n4, .int .i64 c, .pointer (some ⟨swaps, 0, none⟩)] w1 (RetR R fun u7 w6 => ∃ n8 n9, u7 = .tuple #[.int .i64 n8, .int .i64 n9] ∧ Aa Tryz.prog 208 [.slice data data_n data_c, .int .i64 n3, .int .i64 n8, .pointer (some ⟨swaps, 0, none⟩)] w6 (RetR R fun u12 w11 => ∃ n13 n14, u12 = .tuple #[.int .i64 n13, .int .i64 n14] ∧ R (.returned (.int .i64 n14)) w11)))
theorem sx203.ok {data : Option Addr} {data_n data_c : Nat} {a b c : Int} {swaps : Nat} {R : Ending → World → Prop} {w : World} (h : sx203 data data_n data_c a b c swaps R w) : Aa Tryz.prog 203 [.slice data data_n data_c, .int .i64 a, .int .i64 b, .int .i64 c, .pointer (some ⟨swaps, 0, none⟩)] w R :=
 okOf {} mix Tryz.func203 (by kernel_rfl) (by kernel_rfl) (by kernel_rfl) h
def sx202 (data : Option Addr) (data_n data_c : Nat) (a : Int) (swaps : Nat) (R : Ending → World → Prop) (w : World) : Prop :=
 Aa Tryz.prog 203 [.slice data data_n data_c, .int .i64 (IntKind.i64.wrap (a - 1)), .int .i64 a, .int .i64 (IntKind.i64.wrap (a + 1)), .pointer (some ⟨swaps, 0, none⟩)] w (RetR R fun u2 w1 => ∃ n3, u2 = .int .i64 n3 ∧ R (.returned (.int .i64 n3)) w1)
theorem sx202.ok {data : Option Addr} {data_n data_c : Nat} {a : Int} {swaps : Nat} {R : Ending → World → Prop} {w : World} (h : sx202 data data_n data_c a swaps R w) : Aa Tryz.prog 202 [.slice data data_n data_c, .int .i64 a, .pointer (some ⟨swaps, 0, none⟩)] w R :=
 okOf {} mix Tryz.func202 (by kernel_rfl) (by kernel_rfl) (by kernel_rfl) h
def sx188 (data : Option Addr) (data_n data_c : Nat) (a b : Int) (R : Ending → World → Prop) (w : World) : Prop :=
 ∀ b1 w2, Ag w w2 b1 (.cells [.int .i64 0].toArray 3) → (((4 : Int) = 0 → R (.panicked (Bq Tryz.prog)) w2) ∧ ((4 : Int) ≠ 0 → ∀ n3 : Int, n3 = IntKind.i64.wrap (Int.tdiv (IntKind.i64.wrap (b - a)) 4) → ∀ n4 : Int, n4 = IntKind.i64.wrap (a + (IntKind.i64.wrap (n3 * 1))) → (((4 : Int) = 0 → R (.panicked (Bq Tryz.prog)) w2) ∧ ((4 : Int) ≠ 0 → ∀ n5 : Int, n5 = IntKind.i64.wrap (Int.tdiv (IntKind.i64.wrap (b - a)) 4) → ∀ n6 : Int, n6 = IntKind.i64.wrap (a + (IntKind.i64.wrap (n5 * 2))) → (((4 : Int) = 0 → R (.panicked (Bq Tryz.prog)) w2) ∧ ((4 : Int) ≠ 0 → ∀ n7 : Int, n7 = IntKind.i64.wrap (Int.tdiv (IntKind.i64.wrap (b - a)) 4) → ∀ n8 : Int, n8 = IntKind.i64.wrap (a + (IntKind.i64.wrap (n7 * 3))) → ifB (decide ((IntKind.i64.wrap (b - a)) ≥ 8)) (ifB (decide ((IntKind.i64.wrap (b - a)) ≥ 50)) (Aa Tryz.prog 202 [.slice data data_n data_c, .int .i64 n4, .pointer (some ⟨b1, 0, none⟩)] w2 (RetR R fun u10 w9 => ∃ n11, u10 = .int .i64 n11 ∧ Aa Tryz.prog 202 [.slice data data_n data_c, .int .i64 n6, .pointer (some ⟨b1, 0, none⟩)] w9 (RetR R fun u14 w13 => ∃ n15, u14 = .int .i64 n15 ∧ Aa Tryz.prog 202 [.slice data data_n data_c, .int .i64 n8, .pointer (some ⟨b1, 0, none⟩)] w13 (RetR R fun u18 w17 => ∃ n19, u18 = .int .i64 n19 ∧ Aa Tryz.prog 203 [.slice data data_n data_c, .int .i64 n11, .int .i64 n15, .int .i64 n19, .pointer (some ⟨b1, 0, none⟩)] w17 (RetR R fun u22 w21 => ∃ n23, u22 = .int .i64 n23 ∧ ∃ n25, w21.cell? ⟨b1, 0, none⟩ = some (.int .i64 n25) ∧ ifB (n25 == 0) (R (.returned (.tuple #[.int .i64 n23, .int .i64 1])) w21) (ifB (n25 == 12) (R (.returned (.tuple #[.int .i64 n23, .int .i64 2])) w21) (R (.returned (.tuple #[.int .i64 n23, .int .i64 0])) w21))))))) (Aa Tryz.prog 203 [.slice data data_n data_c, .int .i64 n4, .int .i64 n6, .int .i64 n8, .pointer (some ⟨b1, 0, none⟩)] w2 (RetR R fun u27 w26 => ∃ n28, u27 = .int .i64 n28 ∧ ∃ n30, w26.cell? ⟨b1, 0, none⟩ = some (.int .i64 n30) ∧ ifB (n30 == 0) (R (.returned (.tuple #[.int .i64 n28, .int .i64 1])) w26) (ifB (n30 == 12) (R (.returned (.tuple #[.int .i64 n28, .int .i64 2])) w26) (R (.returned (.tuple #[.int .i64 n28, .int .i64 0])) w26))))) (∃ n31, w2.cell? ⟨b1, 0, none⟩ = some (.int .i64 n31) ∧ ifB (n31 == 0) (R (.returned (.tuple #[.int .i64 n6, .int .i64 1])) w2) (ifB (n31 == 12) (R (.returned (.tuple #[.int .i64 n6, .int .i64 2])) w2) (R (.returned (.tuple #[.int .i64 n6, .int .i64 0])) w2)))))))))
theorem sx188.ok {data : Option Addr} {data_n data_c : Nat} {a b : Int} {R : Ending → World → Prop} {w : World} (h : sx188 data data_n data_c a b R w) : Aa Tryz.prog 188 [.slice data data_n data_c, .int .i64 a, .int .i64 b] w R :=
 okOf { named := [18, 20, 23, 25, 28, 30] } mix Tryz.func188 (by kernel_rfl) (by kernel_rfl) (by kernel_rfl) h
open Go.Sort
theorem If {d : Array Int} {b i : Nat} (h : i < b) (hl : ltInt d[i]! d[i - 1]! = false) : scanSorted ltInt d b i = scanSorted ltInt d b (i + 1) := by
 rw [scanSorted, if_pos (by simp [h, hl])]
theorem E6 {d : Array Int} {b i : Nat} (h : i < b → ltInt d[i]! d[i - 1]! = true) : scanSorted ltInt d b i = i := by
 rw [scanSorted, if_neg]
 intro h'
 simp only [Bool.and_eq_true, decide_eq_true_eq, Bool.not_eq_true'] at h'
 rw [h h'.1] at h'; exact absurd h'.2 (by simp)
theorem Gi (d : Array Int) (b : Nat) : ∀ (n i : Nat), b - i ≤ n → i ≤ b → i ≤ scanSorted ltInt d b i ∧ scanSorted ltInt d b i ≤ b
 | n, i, hn, hi => by
  by_cases h : i < b ∧ ltInt d[i]! d[i - 1]! = false
  ·rw [If h.1 h.2]
   cases n with
   | zero => omega
   | succ n => have := Gi d b n (i + 1) (by omega) (by omega); omega
  ·rw [E6 fun hh => by cases hc : ltInt d[i]! d[i - 1]! with | true => rfl | false => exact absurd ⟨hh, hc⟩ h]; omega
theorem Hm : ∀ (j : Nat) (d : Array Int), (shiftDown ltInt j d).size = d.size
 | 0, d => rfl
 | j + 1, d => by
  rw [shiftDown]; split
  ·rfl
  ·rw [Hm j, Cb]
def F2 (a i : Nat) (d : Array Int) : Array Int := if i - a ≥ 2 then shiftDown ltInt (i - 1) d else d
def Qw (b i : Nat) (d : Array Int) : Array Int := if b - i ≥ 2 then shiftUp ltInt b (i + 1) d else d
theorem Nm (a b s i : Nat) (d : Array Int) : partialIns ltInt a b (s + 1) i d =
  if scanSorted ltInt d b i = b then (d, true) else if b - a < 50 then (d, false) else
   partialIns ltInt a b s (scanSorted ltInt d b i) (Qw b (scanSorted ltInt d b i) (F2 a (scanSorted ltInt d b i) (swp d (scanSorted ltInt d b i) (scanSorted ltInt d b i - 1)))) := rfl
set_option maxHeartbeats 1000000 in
theorem Aa3 {B : Nat} {p : Option Addr} {n c a b : Nat} {d : Array Int} {w : World} (h : Sr_U B p n c w d) (hab : a < b) (hb : b ≤ d.size) (hsz : d.size < 4611686018427387904) :
  Aa Tryz.prog 190 [.slice p n c, .int .i64 a, .int .i64 b] w (Rets (O5 B p n c w (.bool (partialInsertionSort ltInt d a b).2) (partialInsertionSort ltInt d a b).1)) := by
 refine sx190.ok ?_
 unfold sx190
 have e1 : IntKind.i64.wrap ((a : Int) + 1) = ((a + 1 : Nat) : Int) := by rw [IntKind.wrap_i64]; omega
 have e2 : IntKind.i64.wrap ((b : Int) - (a : Int)) = ((b - a : Nat) : Int) := by rw [IntKind.wrap_i64]; omega
 rw [e1, e2]
 obtain ⟨r, hr⟩ : ∃ r, r = partialInsertionSort ltInt d a b := ⟨_, rfl⟩
 rw [← hr]
 refine ⟨fun x y w' => ∃ (i s : Nat) (d' : Array Int), x = i ∧ y = s ∧ a + 1 ≤ i ∧ i ≤ b ∧ s ≤ 5 ∧ d'.size = d.size ∧ Sr_U B p n c w' d' ∧ partialIns ltInt a b (5 - s) i d' = r ∧ Upd (Blk p) w w', fun x y _ => 5 - y.toNat, ⟨a + 1, 0, d, rfl, rfl, by omega, by omega, by omega, rfl, h, hr.symm, Upd.refl _ _⟩, ?_⟩
 rintro x y w4 ⟨i, s, d1, rfl, rfl, hi, hib, hs5, hs1, h4, he, hu4⟩
 refine ⟨fun hlt => ?_, fun hge => ?_⟩
 ·simp only [decide_eq_true_eq] at hlt
  obtain ⟨m, hm⟩ : ∃ m, 5 - s = m + 1 := ⟨5 - s - 1, by omega⟩
  rw [hm, Nm] at he
  have hrange := Gi d1 b (b - i) i (Nat.le_refl _) hib
  obtain ⟨i2, hi2⟩ : ∃ i2, i2 = scanSorted ltInt d1 b i := ⟨_, rfl⟩
  rw [← hi2] at he hrange
  refine ⟨fun x w' => x = (i2 : Nat) ∧ Sr_U B p n c w' d1 ∧ Upd (Blk p) w w', ⟨fun x w' => ∃ k : Nat, x = k ∧ a + 1 ≤ k ∧ k ≤ b ∧ scanSorted ltInt d1 b k = i2 ∧ Sr_U B p n c w' d1 ∧ Upd (Blk p) w w', fun x _ => b - x.toNat, ⟨i, rfl, hi, hib, hi2.symm, h4, hu4⟩, ?_⟩, ?_⟩
  ·rintro x w8 ⟨k, rfl, hk, hkb, hek, h8, hu8⟩ w9 hg9
   have h9 := h8.grew hg9
   refine ⟨fun hle => ?_, fun hgt => ?_⟩
   ·simp only [decide_eq_true_eq] at hle
    have e3 : IntKind.i64.wrap ((k : Int) + 1) = ((k + 1 : Nat) : Int) := by rw [IntKind.wrap_i64]; omega
    have e4 : IntKind.i64.wrap ((k : Int) - 1) = ((k - 1 : Nat) : Int) := by rw [IntKind.wrap_i64]; omega
    rw [e3, e4]
    refine Ar.rd h9 (i := k) rfl (by omega) fun q1 => Ar.rd h9 (i := k - 1) rfl (by omega) fun q2 => Bw ⟨_, rfl, Cl _ _, fun hl => ?_, fun hl => ?_⟩
    ·exact ⟨⟨k + 1, rfl, by omega, by omega, (If (i := k) (by omega) (by simpa using hl)).symm.trans hek, h9, hu8.then_grew hg9⟩, by show b - (((k + 1 : Nat) : Int)).toNat < b - ((k : Int)).toNat; omega⟩
    ·rw [E6 (fun _ => by simpa using hl)] at hek
     exact ⟨by rw [hek], h9, hu8.then_grew hg9⟩
   ·simp only [decide_eq_false_iff_not] at hgt
    rw [E6 (fun hh => by omega)] at hek
    exact ⟨by rw [hek], h9, hu8.then_grew hg9⟩
  rintro x w19 ⟨rfl, h19, hu19⟩
  refine ⟨fun heq => ?_, fun hne => ⟨fun h50 => ?_, fun h50 w20 hg20 => ?_⟩⟩
  ·have : i2 = b := by simp only [beq_iff_eq] at heq; omega
   rw [if_pos this] at he
   subst he
   exact ⟨_, rfl, rfl, h19, hu19⟩
  ·have h1 : i2 ≠ b := by simp only [beq_eq_false_iff_ne, ne_eq] at hne; omega
   simp only [decide_eq_true_eq] at h50
   rw [if_neg h1, if_pos (by omega)] at he
   subst he
   exact ⟨_, rfl, rfl, h19, hu19⟩
  have h1 : i2 ≠ b := by simp only [beq_eq_false_iff_ne, ne_eq] at hne; omega
  simp only [decide_eq_false_iff_not] at h50
  rw [if_neg h1, if_neg (by omega)] at he
  have e4 : IntKind.i64.wrap ((i2 : Int) - 1) = ((i2 - 1 : Nat) : Int) := by rw [IntKind.wrap_i64]; omega
  have e5 : IntKind.i64.wrap ((i2 : Int) + 1) = ((i2 + 1 : Nat) : Int) := by rw [IntKind.wrap_i64]; omega
  have e6 : IntKind.i64.wrap ((i2 : Int) - (a : Int)) = ((i2 - a : Nat) : Int) := by rw [IntKind.wrap_i64]; omega
  have e7 : IntKind.i64.wrap ((b : Int) - (i2 : Int)) = ((b - i2 : Nat) : Int) := by rw [IntKind.wrap_i64]; omega
  have e8 : IntKind.i64.wrap ((s : Int) + 1) = ((s + 1 : Nat) : Int) := by rw [IntKind.wrap_i64]; omega
  rw [e4, e5, e6, e8]
  have h20 := h19.grew hg20
  refine Ar.rd h20 (i := i2 - 1) rfl (by omega) fun q3 => Ar.rd h20 (i := i2) rfl (by omega) fun q4 => Ar.st h20 (i := i2) rfl (by omega) fun q5 w26 h26 hu26 => Ar.st h26 (i := i2 - 1) rfl (by simp; omega) fun q6 w28 h28 hu28 => ?_
  have hu28 := ((hu19.then_grew hg20).trans hu26).trans hu28
  obtain ⟨d2, hd2⟩ : ∃ d2, d2 = swp d1 i2 (i2 - 1) := ⟨_, rfl⟩
  have h28 : Sr_U B p n c w28 d2 := by rw [hd2]; exact h28
  have hs2 : d2.size = d.size := by rw [hd2, Cb]; exact hs1
  rw [← hd2] at he
  refine ⟨fun w' => Sr_U B p n c w' (F2 a i2 d2) ∧ Upd (Blk p) w w', ⟨fun hge => ?_, fun hlt => ⟨?_, hu28⟩⟩, ?_⟩
  ·simp only [decide_eq_true_eq, ge_iff_le] at hge
   have hfd : F2 a i2 d2 = shiftDown ltInt (i2 - 1) d2 := by rw [F2, if_pos (by omega)]
   refine ⟨fun x w' => ∃ (j : Nat) (d3 : Array Int), x = j ∧ j ≤ i2 - 1 ∧ d3.size = d.size ∧ Sr_U B p n c w' d3 ∧ shiftDown ltInt j d3 = F2 a i2 d2 ∧ Upd (Blk p) w w', fun x _ => x.toNat, ⟨i2 - 1, d2, rfl, Nat.le_refl _, hs2, h28, hfd.symm, hu28⟩, ?_⟩
   rintro x w32 ⟨j, d3, rfl, hj, hs3, h32, he3, hu32⟩
   refine ⟨fun hge1 w33 hg33 => ?_, fun hlt1 => ?_⟩
   ·simp only [decide_eq_true_eq, ge_iff_le] at hge1
    obtain ⟨j, rfl⟩ : ∃ j', j = j' + 1 := ⟨j - 1, by omega⟩
    have e9 : IntKind.i64.wrap (((j + 1 : Nat) : Int) - 1) = (j : Int) := by rw [IntKind.wrap_i64]; omega
    rw [e9]
    have h33 := h32.grew hg33
    rw [shiftDown] at he3
    refine Ar.rd h33 (i := j + 1) rfl (by omega) fun q1 => Ar.rd h33 (i := j) rfl (by omega) fun q2 => Bw ⟨_, rfl, fun hl => ?_, fun hl w42 hg42 => ?_⟩
    ·rw [if_pos hl] at he3
     subst he3
     exact ⟨h33, hu32.then_grew hg33⟩
    ·rw [if_neg (by rw [hl]; simp)] at he3
     have h42 := h33.grew hg42
     refine Ar.rd h42 (i := j) rfl (by omega) fun q3 => Ar.rd h42 (i := j + 1) rfl (by omega) fun q4 => Ar.st h42 (i := j + 1) rfl (by omega) fun q5 w48 h48 hu48 => Ar.st h48 (i := j) rfl (by simp; omega) fun q6 w50 h50 hu50 => ?_
     exact ⟨⟨j, _, rfl, by omega, by rw [← hs3]; exact Cb d3 (j + 1) j, h50, he3, (((hu32.then_grew hg33).then_grew hg42).trans hu48).trans hu50⟩, by show ((j : Int)).toNat < (((j + 1 : Nat) : Int)).toNat; omega⟩
   ·simp only [decide_eq_false_iff_not, ge_iff_le] at hlt1
    have : j = 0 := by omega
    subst this
    rw [shiftDown] at he3
    subst he3
    exact ⟨h32, hu32⟩
  ·simp only [decide_eq_false_iff_not, ge_iff_le] at hlt
   have hfd : F2 a i2 d2 = d2 := by rw [F2, if_neg (by omega)]
   rw [hfd]; exact h28
  rintro w51 ⟨h51, hu51⟩ n52 rfl
  rw [e7]
  obtain ⟨d4, hd4⟩ : ∃ d4, d4 = F2 a i2 d2 := ⟨_, rfl⟩
  rw [← hd4] at h51 he
  have hs4 : d4.size = d.size := by
   rw [hd4, F2]; split
   ·rw [Hm, hs2]
   ·exact hs2
  have hm5 : m = 5 - (s + 1) := by omega
  have hnext : ∀ (d5 : Array Int) (w' : World), d5.size = d.size → Sr_U B p n c w' d5 → Qw b i2 d4 = d5 → Upd (Blk p) w w' → (∃ (i s' : Nat) (d' : Array Int), (i2 : Int) = i ∧ ((s + 1 : Nat) : Int) = s' ∧ a + 1 ≤ i ∧ i ≤ b ∧ s' ≤ 5 ∧ d'.size = d.size ∧ Sr_U B p n c w' d' ∧ partialIns ltInt a b (5 - s') i d' = r ∧ Upd (Blk p) w w') ∧ 5 - (((s + 1 : Nat) : Int)).toNat < 5 - ((s : Int)).toNat := by
   intro d5 w' hs5' h5 hf hu5
   rw [hf, hm5] at he
   exact ⟨⟨i2, s + 1, d5, rfl, rfl, by omega, by omega, by omega, hs5', h5, he, hu5⟩, by omega⟩
  refine ⟨fun hge => ?_, fun hlt => ?_⟩
  ·simp only [decide_eq_true_eq, ge_iff_le] at hge
   have hfu : Qw b i2 d4 = shiftUp ltInt b (i2 + 1) d4 := by rw [Qw, if_pos (by omega)]
   refine ⟨fun x w' => ∃ (j : Nat) (d3 : Array Int), x = j ∧ i2 + 1 ≤ j ∧ j ≤ b ∧ d3.size = d.size ∧ Sr_U B p n c w' d3 ∧ shiftUp ltInt b j d3 = Qw b i2 d4 ∧ Upd (Blk p) w w', fun x _ => b - x.toNat, ⟨i2 + 1, d4, rfl, Nat.le_refl _, by omega, hs4, h51, hfu.symm, hu51⟩, ?_⟩
   rintro x w55 ⟨j, d3, rfl, hj, hjb, hs3, h55, he3, hu55⟩
   refine ⟨fun hlt1 w56 hg56 => ?_, fun hge1 => ?_⟩
   ·simp only [decide_eq_true_eq] at hlt1
    have e9 : IntKind.i64.wrap ((j : Int) - 1) = ((j - 1 : Nat) : Int) := by rw [IntKind.wrap_i64]; omega
    have e10 : IntKind.i64.wrap ((j : Int) + 1) = ((j + 1 : Nat) : Int) := by rw [IntKind.wrap_i64]; omega
    rw [e9, e10]
    have h56 := h55.grew hg56
    rw [shiftUp, if_pos (by omega)] at he3
    refine Ar.rd h56 (i := j) rfl (by omega) fun q1 => Ar.rd h56 (i := j - 1) rfl (by omega) fun q2 => Bw ⟨_, rfl, fun hl => ?_, fun hl w65 hg65 => ?_⟩
    ·rw [if_pos hl] at he3
     exact hnext d3 w56 hs3 h56 he3.symm (hu55.then_grew hg56)
    ·rw [if_neg (by rw [hl]; simp)] at he3
     have h65 := h56.grew hg65
     refine Ar.rd h65 (i := j - 1) rfl (by omega) fun q3 => Ar.rd h65 (i := j) rfl (by omega) fun q4 => Ar.st h65 (i := j) rfl (by omega) fun q5 w71 h71 hu71 => Ar.st h71 (i := j - 1) rfl (by simp; omega) fun q6 w73 h73 hu73 => ?_
     exact ⟨⟨j + 1, _, rfl, by omega, by omega, by rw [← hs3]; exact Cb d3 j (j - 1), h73, he3, (((hu55.then_grew hg56).then_grew hg65).trans hu71).trans hu73⟩, by show b - (((j + 1 : Nat) : Int)).toNat < b - ((j : Int)).toNat; omega⟩
   ·simp only [decide_eq_false_iff_not] at hge1
    rw [shiftUp, if_neg (by omega)] at he3
    exact hnext d3 w55 hs3 h55 he3.symm hu55
  ·simp only [decide_eq_false_iff_not, ge_iff_le] at hlt
   exact hnext d4 w51 hs4 h51 (by rw [Qw, if_neg (by omega)]) hu51
 ·simp only [decide_eq_false_iff_not] at hge
  have : s = 5 := by omega
  subst this
  rw [Nat.sub_self, partialIns] at he
  subst he
  exact ⟨_, rfl, rfl, h4, hu4⟩
end Go.Proofs.YtcpkneemhfnanaaGreat
