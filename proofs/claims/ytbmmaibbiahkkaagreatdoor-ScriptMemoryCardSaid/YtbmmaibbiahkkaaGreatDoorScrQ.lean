/- Scripts printed. Conditions: none. -/
import Derived.Test.YtbmmaibbiahkkaaGreatDoorProg
import Derived.Test.YtbmmaibbiahkkaaGreatDoorScrP
import Derived.Test.YtbmmaibbiahkkaaGreatDoorSxSh
namespace Go.Proofs.YtbmmaibbiahkkaaGreatDoor
open Go.Sx
set_option maxRecDepth 100000
set_option linter.unusedVariables false
set_option linter.unusedSimpArgs false
def sx15_a (w37 : World) (i_n : Nat) (i : Option Addr) (b2 : Nat) (R : Ending → World → Prop) : Prop :=
 ∃ (I41 : Int → World → Prop) (m41 : Int → World → Nat), I41 0 w37 ∧ ∀ n42 w43, I41 n42 w43 → ifB (decide (n42 < ((i_n : Nat) : Int))) (Ac i (fun d44 => (0 ≤ n42 ∧ n42 < (i_n : Nat)) ∧ ∃ n45 n46 n47 n48 x49, Ah w43 (Addr.add d44 (n42.toNat * 5)) 0 [.int .i64 n45, .int .i64 n46, .int .i64 n47, .int .u64 n48, .float .f64 x49] ∧ ∀ w50, Grew w43 w50 → Aa Tryz.prog 35 [.pointer (some ⟨b2, 0, none⟩), .agg #[.int .i64 n45, .int .i64 n46, .int .i64 n47, .int .u64 n48, .float .f64 x49]] w50 (RetR R fun u52 w51 => ∃ n53, u52 = .int .i64 n53 ∧ ifB (n53 != 0) (R (.returned (.tuple #[.string (ByteArray.mk (#[]) : ByteArray), .int .i64 n53])) w51) ((I41 (IntKind.i64.wrap (n42 + 1)) w51 ∧ m41 (IntKind.i64.wrap (n42 + 1)) w51 < m41 n42 w43))))) (Aa Tryz.prog 32 [.pointer (some ⟨b2, 0, none⟩)] w43 (RetR R fun u56 w55 => ∃ n57, u56 = .int .i64 n57 ∧ ifB (decide (n57 > 262144)) (R (.returned (.tuple #[.string (ByteArray.mk (#[]) : ByteArray), .int .i64 6])) w55) (Aa Tryz.prog 36 [.pointer (some ⟨b2, 0, none⟩)] w55 (RetR R fun u60 w59 => ∃ s61, u60 = .string s61 ∧ R (.returned (.tuple #[.string s61, .int .i64 0])) w59))))
def sx15 (d_0 d_1 d_2 : Int) (d_3 : Option Addr) (d_3_n d_3_c : Nat) (d_4 d_5 d_6 d_7 : Int) (i : Option Addr) (i_n i_c : Nat) (R : Ending → World → Prop) (w : World) : Prop :=
  ∀ w1, Grew w w1 → ifB (decide (((i_n : Nat) : Int) > 4096)) (R (.returned (.tuple #[.string (ByteArray.mk (#[]) : ByteArray), .int .i64 212])) w1) (∀ b2 w3, Ar w1 w3 b2 (.cells [.pointer none, .slice none 0 0].toArray 74) → Aa Tryz.prog 29 [.pointer (some ⟨b2, 0, none⟩), .string (ByteArray.mk (#[112, 108, 97, 110]) : ByteArray)] w3 (RetR R fun u5 w4 => ∃ n6 v7, u5 = .tuple #[.int .i64 n6, v7] ∧ ∀ b9 w10, Ar w4 w10 b9 (.cells #[.int .i64 d_0, .int .i64 d_1, .int .i64 d_2, .int .i64 d_4, .int .i64 d_5, .int .i64 d_6, .int .i64 d_7] 3) → ∃ (I11 : Int → World → Prop) (m11 : Int → World → Nat), I11 0 w10 ∧ ∀ n12 w13, I11 n12 w13 → ifB (decide (n12 < ((7 : Nat) : Int))) ((0 ≤ n12 ∧ n12 < (7 : Nat)) ∧ ∃ n14, w13.cell? (Addr.add (⟨b9, 0, none⟩ : Addr) (n12.toNat * 1)) = some (.int .i64 n14) ∧ Aa Tryz.prog 30 [.int .i64 n14] w13 (RetR R fun u16 w15 => ∃ s17, u16 = .string s17 ∧ ∃ s19, Am Tryz.prog (eqS .add 9 (.const (.string (ByteArray.mk (#[32]) : ByteArray))) (.tmp 43) (.string (ByteArray.mk (#[32]) : ByteArray)) (.string s17)) (.string s19) ∧ Aa Tryz.prog 29 [.pointer (some ⟨b2, 0, none⟩), .string s19] w15 (RetR R fun u21 w20 => ∃ n22 v23, u21 = .tuple #[.int .i64 n22, v23] ∧ (I11 (IntKind.i64.wrap (n12 + 1)) w20 ∧ m11 (IntKind.i64.wrap (n12 + 1)) w20 < m11 n12 w13)))) (Aa Tryz.prog 31 [.pointer (some ⟨b2, 0, none⟩), .int .u8 10] w13 (RetR R fun u26 w25 => ∃ v27, u26 = v27 ∧ ∃ (I29 : Int → World → Prop) (m29 : Int → World → Nat), I29 0 w25 ∧ ∀ n30 w31, I29 n30 w31 → ifB (decide (n30 < ((d_3_n : Nat) : Int))) (Ac d_3 (fun d32 => (0 ≤ n30 ∧ n30 < (d_3_n : Nat)) ∧ ∃ n33 n34 x35, Ah w31 (Addr.add d32 (n30.toNat * 3)) 0 [.int .i64 n33, .int .i64 n34, .float .f64 x35] ∧ ∀ w36, Grew w31 w36 → Aa Tryz.prog 32 [.pointer (some ⟨b2, 0, none⟩)] w36 (RetR R fun u38 w37 => ∃ n39, u38 = .int .i64 n39 ∧ ifB (decide (n39 > 262144)) (sx15_a w37 i_n i b2 R) (∀ w63, Grew w37 w63 → Aa Tryz.prog 30 [.int .i64 n33] w63 (RetR R fun u65 w64 => ∃ s66, u65 = .string s66 ∧ Bb w63 w64 [] ∧ ∃ s68, Am Tryz.prog (eqS .add 9 (.const (.string (ByteArray.mk (#[111, 112, 32]) : ByteArray))) (.tmp 62) (.string (ByteArray.mk (#[111, 112, 32]) : ByteArray)) (.string s66)) (.string s68) ∧ ∃ s69, Am Tryz.prog (eqS .add 9 (.tmp 63) (.const (.string (ByteArray.mk (#[32]) : ByteArray))) (.string s68) (.string (ByteArray.mk (#[32]) : ByteArray))) (.string s69) ∧ Aa Tryz.prog 33 [.int .i64 n34, .int .i64 10] w64 (RetR R fun u71 w70 => ∃ s72, u71 = .string s72 ∧ Bb w64 w70 [] ∧ ∃ s74, Am Tryz.prog (eqS .add 9 (.tmp 64) (.tmp 67) (.string s69) (.string s72)) (.string s74) ∧ ∃ s75, Am Tryz.prog (eqS .add 9 (.tmp 68) (.const (.string (ByteArray.mk (#[32]) : ByteArray))) (.string s74) (.string (ByteArray.mk (#[32]) : ByteArray))) (.string s75) ∧ Aa Tryz.prog 34 [.float .f64 x35] w70 (RetR R fun u77 w76 => ∃ s78, u77 = .string s78 ∧ ∃ s80, Am Tryz.prog (eqS .add 9 (.tmp 69) (.tmp 72) (.string s75) (.string s78)) (.string s80) ∧ ∃ s81,
 Am Tryz.prog (eqS .add 9 (.tmp 73) (.const (.string (ByteArray.mk (#[10]) : ByteArray))) (.string s80) (.string (ByteArray.mk (#[10]) : ByteArray))) (.string s81) ∧ Aa Tryz.prog 29 [.pointer (some ⟨b2, 0, none⟩), .string s81] w76 (RetR R fun u83 w82 => ∃ n84 v85, u83 = .tuple #[.int .i64 n84, v85] ∧ (I29 (IntKind.i64.wrap (n30 + 1)) w82 ∧ m29 (IntKind.i64.wrap (n30 + 1)) w82 < m29 n30 w31))))))))) (sx15_a w31 i_n i b2 R)))))
theorem sx15.ok {d_0 d_1 d_2 : Int} {d_3 : Option Addr} {d_3_n d_3_c : Nat} {d_4 d_5 d_6 d_7 : Int} {i : Option Addr} {i_n i_c : Nat} {R : Ending → World → Prop} {w : World} (h : sx15 d_0 d_1 d_2 d_3 d_3_n d_3_c d_4 d_5 d_6 d_7 i i_n i_c R w) : Aa Tryz.prog 15 [.agg #[.int .i64 d_0, .int .i64 d_1, .int .i64 d_2, .slice d_3 d_3_n d_3_c, .int .i64 d_4, .int .i64 d_5, .int .i64 d_6, .int .i64 d_7], .slice i i_n i_c] w R :=
 okOf { locals := [2, 10, 12], pureTo := [44, 63, 64, 68, 69, 73, 74], draws := [(15, { order := (ol [0,1,2,6,7,11,12,3,4,5,8,9,10,13,14,15,16] .nil), bars := [13, 16] })], loops := [(6, { slots := [(37, .int .i64)], cells := [] }), (12, { slots := [(52, .int .i64)], cells := [] }), (18, { slots := [(79, .int .i64)], cells := [] })] } mix Tryz.func15 (by kernel_rfl) (by kernel_rfl) (by kernel_rfl) h
def It : Except Int L8 → Value
 | .ok t => .tuple #[.string (bs t), .int .i64 0]
 | .error e => .tuple #[.string (bs []), .int .i64 e]
theorem F4 : ∀ (l r : List Af), A5 (l ++ r) = match A5 l with
  | .error e => .error e
  | .ok a => match A5 r with
   | .error e => .error e
   | .ok b => .ok (a ++ b)
 | [], r => by simp only [List.nil_append, A5]; cases A5 r <;> simp
 | s :: l, r => by
  simp only [List.cons_append, A5]
  cases Go.Sx.stepT s with
  | error e => rfl
  | ok a =>
   simp only [F4 l r]
   cases A5 l with
   | error e => rfl
   | ok b => simp only; cases A5 r <;> simp
theorem Li {l : List Af} {s : Af} {a b : L8} (h1 : A5 l = .ok a) (h2 : Go.Sx.stepT s = .ok b) : A5 (l ++ [s]) = .ok (a ++ (b ++ [10])) := by
 rw [F4, h1]; simp only [A5, h2]
theorem Md {l r : List Af} {s : Af} {a : L8} {e : Int} (h1 : A5 l = .ok a) (h2 : Go.Sx.stepT s = .error e) : A5 (l ++ s :: r) = .error e := by
 rw [F4, h1]; simp only [A5, h2]
theorem Nl {s : Af} {t : L8} (hf : s.Fits) (h : Go.Sx.stepT s = .ok t) : t.length ≤ 70 := by
 unfold Go.Sx.stepT at h
 split at h
 ·cases h
 ·rename_i w asks hk
  split at h
  ·cases h
   obtain ⟨hm, -⟩ := F1 hk
   have h1 : ∀ x ∈ Df, x.1.length ≤ 7 ∧ x.2.length ≤ 3 := by decide
   obtain ⟨l1, l2⟩ := h1 _ hm
   have : ∀ (cs : L8) (s : Af), s.Fits → (emit cs s).1.length ≤ 21 * cs.length := by
    intro cs
    induction cs with
    | nil => intro s _; simp [emit]
    | cons c cs ih =>
     intro s hs
     obtain ⟨f1, f2⟩ := Ir (c := c) hs
     have := ih _ f1
     simp only [emit, List.length_append, List.length_cons]; omega
   have := this asks s hf
   simp only [List.length_append] at l1 l2 ⊢; omega
  ·cases h
theorem Fa {w w1 w' : World} {b : Nat} {x : BldX} {l l' : L8} (hg : Grew w w1) (h : BA w1 w.heap.size b x l) (hm : BM w1 w.heap.size b x l' w') : ∃ x', BA w' w.heap.size b x' l' ∧ Grew w w' ∧ Upd (x.Foot b) w1 w' := by
 obtain ⟨x', h1, hu, -⟩ := hm
 exact ⟨x', h1, hg.then_own hu fun k hk => (h.lt hk).1, hu⟩
theorem Iu {w w37 : World} {b2 : Nat} {x : BldX} {T : L8} {p : ScrP} {steps : List Af} {i : Option Addr} {n c : Nat} (hG : Glob w) (hs : ∀ s ∈ steps, s.Fits) (hr : Reads w Enc.stepE (i, n, c) steps) (h46 : steps.length ≤ 4096) (hg : Grew w w37)
  (h : BA w37 w.heap.size b2 x T) (hT0 : T ≠ []) (hTl : T.length ≤ 300000) (hT : T = Dx p ++ opsT p.ops ∨ 262144 < T.length ∧ T.length ≤ (Dx p ++ opsT p.ops).length) :
  sx15_a w37 n i b2 (Rets fun v w' => v = It (Bm p steps) ∧ Grew w w') := by
 unfold sx15_a
 have hn : n = steps.length := hr.2.1
 subst hn
 have hP : ∀ t, A5 steps = .ok t → Bm p steps = if 262144 < (T ++ t).length then .error 6 else .ok (T ++ t) := fun t ht => by
  unfold Bm; rw [if_neg (by omega), ht]
  simp only
  rw [← List.append_assoc]
  rcases hT with rfl | ⟨h1, h2⟩
  ·rfl
  ·have e1 : 262144 < (Dx p ++ opsT p.ops ++ t).length := by rw [List.length_append]; omega
   have e2 : 262144 < (T ++ t).length := by rw [List.length_append]; omega
   rw [if_pos e1, if_pos e2]
 have hPe : ∀ e, A5 steps = .error e → Bm p steps = .error e := fun e he => by
  unfold Bm; rw [if_neg (by omega), he]
 refine ⟨fun k w' => ∃ (j : Nat) (t : L8) (x' : BldX), k = j ∧ j ≤ steps.length ∧ A5 (steps.take j) = .ok t ∧ t.length ≤ 71 * j ∧ BA w' w.heap.size b2 x' (T ++ t) ∧ Grew w w', fun k _ => steps.length - k.toNat,
  ⟨0, [], x, rfl, Nat.zero_le _, rfl, Nat.zero_le _, by rw [List.append_nil]; exact h, hg⟩, ?_⟩
 rintro k w43 ⟨j, t, x', rfl, hj, ht, htl, hb, hg43⟩
 refine ⟨fun hlt => ?_, fun hge => ?_⟩
 ·simp only [decide_eq_true_eq] at hlt
  have hjl : j < steps.length := by omega
  obtain ⟨d, y, hd, hy, hc⟩ := (hr.grew hg43).at0 (k := j) hjl
  have hym : y ∈ steps := List.mem_of_getElem? hy
  have hsp : steps = steps.take j ++ y :: steps.drop (j + 1) := by
   have e : steps[j] = y := by rw [List.getElem?_eq_getElem hjl] at hy; exact Option.some.inj hy
   rw [← e, ← List.drop_eq_getElem_cons hjl, List.take_append_drop]
  have hsn : steps.take (j + 1) = steps.take j ++ [y] := by
   have e : steps[j] = y := by rw [List.getElem?_eq_getElem hjl] at hy; exact Option.some.inj hy
   rw [List.take_succ_eq_append_getElem hjl, e]
  rw [hd, Ac, Int.toNat_natCast]
  refine ⟨⟨by omega, by omega⟩, _, _, _, _, _, hc, fun w50 hg50 => ?_⟩
  have hb50 := hb.grew hg50
  refine (O2 (s := y) hG (hg43.trans hg50) hb50 (by simp only [List.length_append]; omega) (hs y hym)).use fun v w51 ⟨code, hv, hp⟩ => ?_
  subst hv
  refine ⟨_, rfl, ?_⟩
  unfold E9 at hp
  cases hst : Go.Sx.stepT y with
  | ok a =>
   rw [hst] at hp
   obtain ⟨rfl, hm⟩ := hp
   obtain ⟨x2, h2, hg51, -⟩ := Fa (hg43.trans hg50) hb50 hm
   refine ⟨fun h => (by cases h), fun _ => ?_⟩
   have ew : IntKind.i64.wrap ((j : Int) + 1) = ((j + 1 : Nat) : Int) := by rw [IntKind.wrap_i64]; omega
   rw [ew]
   have hal := Nl (hs y hym) hst
   refine ⟨⟨j + 1, t ++ (a ++ [10]), x2, rfl, hjl, by rw [hsn]; exact Li ht hst, by simp only [List.length_append, List.length_singleton]; omega, by rw [← List.append_assoc]; exact h2, hg51⟩, ?_⟩
   show steps.length - (((j + 1 : Nat) : Int)).toNat < steps.length - ((j : Nat) : Int).toNat; omega
  | error e =>
   rw [hst] at hp
   obtain ⟨rfl, hu⟩ := hp
   have he : A5 steps = .error code := by rw [hsp]; exact Md ht hst
   have hg51 : Grew w w51 := (hg43.trans hg50).then_own hu fun k hk => (hb50.lt hk).1
   refine ⟨fun _ => ⟨_, rfl, by rw [hPe _ he]; rfl, hg51⟩, fun h0 => ?_⟩
   exfalso
   have hc0 : code = 0 := by simpa using h0
   subst hc0
   unfold Go.Sx.stepT at hst
   split at hst
   ·cases hst
   ·split at hst <;> cases hst
 ·simp only [decide_eq_false_iff_not] at hge
  have hjl : j = steps.length := by omega
  subst hjl
  rw [List.take_length] at ht
  refine (Mp hb).use fun v w55 ⟨hv, hw⟩ => ?_
  subst hv; subst hw
  refine ⟨_, rfl, fun hgt => ?_, fun hle => ?_⟩
  ·simp only [decide_eq_true_eq] at hgt
   exact ⟨_, rfl, by rw [hP t ht, if_pos (by omega)]; rfl, hg43⟩
  ·simp only [decide_eq_false_iff_not] at hle
   refine (Lx hb (by simp [hT0]) (by omega)).use fun v w59 ⟨hv, hu⟩ => ?_
   subst hv
   exact ⟨_, rfl, _, rfl, by rw [hP t ht, if_neg (by omega)]; rfl, hg43.then_own hu fun k hk => (hb.lt hk).1⟩
def Cq (p : ScrP) : List Int := [p.n0, p.n1, p.n2, p.n3, p.n4, p.n5, p.n6]
def Gs (l : List Int) : L8 := (l.map fun n => 32 :: Lib.itoa n).flatten
theorem Ju {l : List Int} (h : ∀ n ∈ l, -9223372036854775808 ≤ n ∧ n < 9223372036854775808) : (Gs l).length ≤ 21 * l.length := by
 induction l with
 | nil => simp [Gs]
 | cons n l ih =>
  have h1 := Ck (h n (by simp))
  have h2 := ih fun m hm => h m (by simp [hm])
  simp only [Gs, List.map_cons, List.flatten_cons, List.length_append, List.length_cons] at h2 ⊢; omega
theorem Px {o : OpV} (h : o.Fits) : (opT o ++ [10]).length ≤ 65 := by
 have h1 := Ck h.1
 have h2 := Ck h.2.1
 simp only [opT, opW, List.length_append, List.length_cons, List.length_nil, C5]; omega
theorem Jv (l : List OpV) (o : OpV) : opsT (l ++ [o]) = opsT l ++ (opT o ++ [10]) := by
 unfold opsT; rw [List.map_append, List.flatten_append]; simp
theorem Mw : ∀ l : List OpV, l.length ≤ (opsT l).length
 | [] => Nat.zero_le _
 | o :: l => by
  have := Mw l
  simp only [opsT, List.map_cons, List.flatten_cons, List.length_append, List.length_cons, List.length_nil] at this ⊢; omega
theorem Nm (l : List OpV) (j : Nat) : (opsT (l.take j)).length ≤ (opsT l).length := by
 have : opsT l = opsT (l.take j) ++ opsT (l.drop j) := by
  unfold opsT; rw [← List.flatten_append, ← List.map_append, List.take_append_drop]
 rw [this, List.length_append]; omega
@[reducible] def Iv (p : ScrP) (o : Sl3) : Value := .agg #[.int .i64 p.n0, .int .i64 p.n1, .int .i64 p.n2, .slice o.1 o.2.1 o.2.2, .int .i64 p.n3, .int .i64 p.n4, .int .i64 p.n5, .int .i64 p.n6]
theorem Iw {p : ScrP} {steps : List Af} {o : Sl3} {i : Option Addr} {n c : Nat} {w : World} (hG : Glob w) (hp : p.Fits) (hs : ∀ s ∈ steps, s.Fits) (ho : Reads w Enc.op3 o p.ops) (hr : Reads w Enc.stepE (i, n, c) steps) :
  Aa Tryz.prog 15 [Iv p o, .slice i n c] w (Rets fun v w' => v = It (Bm p steps) ∧ Grew w w') := by
 refine sx15.ok ?_
 unfold sx15
 have hn : n = steps.length := hr.2.1
 subst hn
 obtain ⟨oa, on, oc⟩ := o
 have hon : on = p.ops.length := ho.2.1
 subst hon
 simp only at *
 intro w1 hg1
 refine ⟨fun hgt => ?_, fun hle => ?_⟩
 ·simp only [decide_eq_true_eq] at hgt
  have : Bm p steps = .error 212 := by unfold Bm; rw [if_pos (by omega)]
  rw [this]; exact ⟨_, rfl, rfl, hg1⟩
 simp only [decide_eq_false_iff_not] at hle
 intro b2 w3 hal
 have hb0 : BA w3 w.heap.size b2 ⟨none, none, 0, 0⟩ [] := by
  have := Bv.fresh (T := 74) (e := 5) hal
  exact ⟨this.row, this.ptr, Nat.le_trans hg1.size this.low, this.own.base hg1.size, this.apart⟩
 have hg3 := hg1.trans hal.grew
 refine (Bo (s := Cp) hb0 hg3.size (by decide)).use fun v w4 ⟨⟨q1, q2, hv⟩, hm⟩ => ?_
 subst hv
 obtain ⟨x4, hb4, hg4, -⟩ := Fa hg3 hb0 hm
 refine ⟨_, _, rfl, fun b9 w10 hal9 => ?_⟩
 have hr9 : Row w10 b9 3 ((Cq p).map (Value.int .i64)) := hal9.at_
 refine ⟨fun k w' => ∃ (j : Nat) (x' : BldX), k = j ∧ j ≤ 7 ∧ BA w' w.heap.size b2 x' (Cp ++ Gs ((Cq p).take j)) ∧ Row w' b9 3 ((Cq p).map (Value.int .i64)) ∧ Grew w w', fun k _ => 7 - k.toNat,
  ⟨0, x4, rfl, by omega, hb4.grew hal9.grew, hr9, hg4.trans hal9.grew⟩, ?_⟩
 rintro k w13 ⟨j, x', rfl, hj, hb, hr9, hg13⟩
 have l7 : (Cq p).length = 7 := rfl
 refine ⟨fun hlt => ?_, fun hge => ?_⟩
 ·simp only [decide_eq_true_eq] at hlt
  have hj7 : j < 7 := by omega
  have hjn : j < (Cq p).length := by rw [l7]; exact hj7
  have hnf := hp.nums (Cq p)[j] (List.getElem_mem hjn)
  refine ⟨⟨by omega, by omega⟩, (Cq p)[j], ?_, (Hl (hG.grew hg13) ⟨hnf.1, by omega⟩).use fun v w15 ⟨hv, hg15⟩ => ?_⟩
  ·rw [Bj, Int.toNat_natCast, Nat.mul_one, Nat.zero_add, hr9.cell, List.getElem?_map, List.getElem?_eq_getElem hjn]; rfl
  subst hv
  have hil := Ck hnf
  have hsn : Cp ++ Gs ((Cq p).take (j + 1)) = Cp ++ Gs ((Cq p).take j) ++ (32 :: Lib.itoa (Cq p)[j]) := by
   rw [List.take_succ_eq_append_getElem hjn]
   simp only [Gs, List.map_append, List.map_cons, List.map_nil, List.flatten_append, List.flatten_cons, List.flatten_nil, List.append_nil, List.append_assoc]
  have hlt1 := Ju (l := (Cq p).take j) fun m hm => hp.nums m (List.mem_of_mem_take hm)
  have htl : ((Cq p).take j).length ≤ 7 := by rw [List.length_take, l7]; omega
  have hpw : Cp.length = 4 := rfl
  have hb15 := hb.grew hg15
  refine ⟨_, rfl, _, E2 (a := [32]) (by simp only [List.length_singleton]; omega), (Bo hb15 (hg13.trans hg15).size (by simp only [List.length_append, List.length_singleton]; omega)).use fun v w20 ⟨⟨q1, q2, hv⟩, hm⟩ => ?_⟩
  subst hv
  obtain ⟨x2, h2, hg20, hu20⟩ := Fa (hg13.trans hg15) hb15 hm
  refine ⟨_, _, rfl, ?_⟩
  have ew : IntKind.i64.wrap ((j : Int) + 1) = ((j + 1 : Nat) : Int) := by rw [IntKind.wrap_i64]; omega
  rw [ew]
  refine ⟨⟨j + 1, x2, rfl, by omega, by rw [hsn]; exact h2, (hr9.grew hg15).upd hu20 fun hk => ?_, hg20⟩, ?_⟩
  ·rcases hk with e | hk
   ·exact (hr9.grew hg15).row_ne hb15.row (by decide) e
   ·exact Ax hb15.own (hr9.grew hg15) (by decide) hk
  ·show 7 - (((j + 1 : Nat) : Int)).toNat < 7 - ((j : Nat) : Int).toNat; omega
 simp only [decide_eq_false_iff_not] at hge
 have : j = 7 := by omega
 subst this
 have hhead : Cp ++ Gs ((Cq p).take 7) ++ [10] = Dx p := by unfold Dx; simp [Cq, Gs]
 have hlt1 := Ju (l := (Cq p).take 7) fun m hm => hp.nums m (List.mem_of_mem_take hm)
 have htl : ((Cq p).take 7).length ≤ 7 := by rw [List.length_take]; omega
 have hpw : Cp.length = 4 := rfl
 have e10 : (10 : Int) = (((10 : UInt8).toNat : Nat) : Int) := rfl
 rw [e10]
 refine (Ed hb hg13.size (by simp only [List.length_append]; omega)).use fun v w25 hm => ?_
 obtain ⟨x2, h2, hg25, -⟩ := Fa hg13 hb hm
 rw [hhead] at h2
 have hhl : (Dx p).length ≤ 200 := by rw [← hhead]; simp only [List.length_append, List.length_singleton]; omega
 have hh0 : Dx p ≠ [] := by rw [← hhead]; simp
 refine ⟨_, rfl, fun k w' => ∃ (j : Nat) (x' : BldX), k = j ∧ j ≤ p.ops.length ∧ BA w' w.heap.size b2 x' (Dx p ++ opsT (p.ops.take j)) ∧ (Dx p ++ opsT (p.ops.take j)).length ≤ 262300 ∧ Grew w w', fun k _ => p.ops.length - k.toNat,
  ⟨0, x2, rfl, Nat.zero_le _, by simpa [opsT] using h2, by simp only [List.take_zero, opsT, List.map_nil, List.flatten_nil, List.append_nil]; omega, hg25⟩, ?_⟩
 rintro k w31 ⟨j, x3, rfl, hj, hb3, hl3, hg31⟩
 refine ⟨fun hlt => ?_, fun hge => ?_⟩
 ·simp only [decide_eq_true_eq] at hlt
  have hjl : j < p.ops.length := by omega
  obtain ⟨d, y, hd, hy, hc⟩ := (ho.grew hg31).at0 (k := j) (by omega)
  have hym : y ∈ p.ops := List.mem_of_getElem? hy
  have hyf := hp.ops y hym
  have hsn : p.ops.take (j + 1) = p.ops.take j ++ [y] := by
   have e : p.ops[j] = y := by rw [List.getElem?_eq_getElem hjl] at hy; exact Option.some.inj hy
   rw [List.take_succ_eq_append_getElem hjl, e]
  rw [hd, Ac, Int.toNat_natCast]
  refine ⟨⟨by omega, by omega⟩, _, _, _, hc, fun w36 hg36 => ?_⟩
  have hb36 := hb3.grew hg36
  have hgw36 := hg31.trans hg36
  refine (Mp hb36).use fun v w37 ⟨hv, hw⟩ => ?_
  subst hv
  rw [hw]
  refine ⟨_, rfl, fun hgt => ?_, fun hle2 w63 hg63 => ?_⟩
  ·simp only [decide_eq_true_eq] at hgt
   refine Iu hG hs hr (by omega) hgw36 hb36 (by simp [hh0]) (by omega) (.inr ⟨by omega, ?_⟩)
   have := Nm p.ops j
   simp only [List.length_append]; omega
  simp only [decide_eq_false_iff_not] at hle2
  have hgw63 := hgw36.trans hg63
  obtain ⟨f1, f2, f3⟩ := hyf
  have i1 := Ck f1
  have i2 := Ck f2
  refine (Hl (hG.grew hgw63) ⟨f1.1, by omega⟩).use fun v w64 ⟨hv, hg64⟩ => ?_
  subst hv
  refine ⟨_, rfl, trivial, _, E2 (a := [111, 112, 32]) (by simp only [List.length_cons, List.length_nil]; omega), _, E2 (b := [32]) (by simp only [List.length_append, List.length_cons, List.length_nil]; omega), (Gm (hG.grew (hgw63.trans hg64)) ⟨f2.1, by omega⟩).use fun v w70 ⟨hv, hg70⟩ => ?_⟩
  subst hv
  refine ⟨_, rfl, trivial, _, E2 (by simp only [List.length_append, List.length_cons, List.length_nil]; omega), _, E2 (b := [32]) (by simp only [List.length_append, List.length_cons, List.length_nil]; omega), (O0 (hG.grew (hgw63.trans (hg64.trans hg70))) f3).use fun v w76 ⟨hv, hg76⟩ => ?_⟩
  subst hv
  have hgw76 := hgw63.trans (hg64.trans (hg70.trans hg76))
  have hb76 := hb36.grew (hg63.trans (hg64.trans (hg70.trans hg76)))
  refine ⟨_, rfl, _, E2 (by simp only [List.length_append, List.length_cons, List.length_nil, C5]; omega), _, E2 (b := [10]) (by simp only [List.length_append, List.length_cons, List.length_nil, C5]; omega), (Bo hb76 hgw76.size (by simp only [List.length_append, List.length_cons, List.length_nil, C5] at hl3 ⊢; omega)).use fun v w82 ⟨⟨q1, q2, hv⟩, hm⟩ => ?_⟩
  subst hv
  obtain ⟨x4, h4, hg82, -⟩ := Fa hgw76 hb76 hm
  have htx : [111, 112, 32] ++ Lib.itoa y.kind ++ [32] ++ Lib.itoa y.n ++ [32] ++ hexK 16 y.x ++ [10] = opT y ++ [10] := by simp [opT, opW]
  rw [htx] at h4
  refine ⟨_, _, rfl, ?_⟩
  have ew : IntKind.i64.wrap ((j : Int) + 1) = ((j + 1 : Nat) : Int) := by
   have hjt := Mw (p.ops.take j)
   rw [List.length_take] at hjt
   simp only [List.length_append] at hl3
   rw [IntKind.wrap_i64]; omega
  rw [ew]
  have hol := Px ⟨f1, f2, f3⟩
  refine ⟨⟨j + 1, x4, rfl, hjl, ?_, ?_, hg82⟩, ?_⟩
  ·rw [hsn, Jv, ← List.append_assoc]; exact h4
  ·rw [hsn, Jv]
   simp only [List.length_append] at hle2 hol hl3 ⊢; omega
  ·show p.ops.length - (((j + 1 : Nat) : Int)).toNat < p.ops.length - ((j : Nat) : Int).toNat; omega
 ·simp only [decide_eq_false_iff_not] at hge
  have : j = p.ops.length := by omega
  subst this
  rw [List.take_length] at hb3 hl3
  exact Iu hG hs hr (by omega) hg31 hb3 (by simp [hh0]) (by omega) (.inl rfl)
end Go.Proofs.YtbmmaibbiahkkaaGreatDoor
