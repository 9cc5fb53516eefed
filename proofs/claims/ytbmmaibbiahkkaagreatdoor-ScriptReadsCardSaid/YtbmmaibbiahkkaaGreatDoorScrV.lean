/- The reference's lines read. Conditions: none. -/
import Derived.Test.YtbmmaibbiahkkaaGreatDoorProg
import Derived.Test.YtbmmaibbiahkkaaGreatDoorScrU
import Derived.Test.YtbmmaibbiahkkaaGreatDoorScrG
import Derived.Test.YtbmmaibbiahkkaaGreatDoorSxSh
namespace Go.Proofs.YtbmmaibbiahkkaaGreatDoor
open Go.Sx
set_option maxRecDepth 100000
set_option linter.unusedVariables false
set_option linter.unusedSimpArgs false
def sx25 (l : Option Addr) (l_n l_c : Nat) (R : Ending → World → Prop) (w : World) : Prop :=
 ∀ w1, Grew w w1 → ifB (((l_n : Nat) : Int) != 8) (R (.returned (.tuple #[.agg #[.int .i64 0, .int .i64 0, .int .i64 0, .slice none 0 0, .int .i64 0, .int .i64 0, .int .i64 0, .int .i64 0], .bool false])) w1) (∀ b2 w3, An w1 w3 b2 (.cells [.int .i64 0, .int .i64 0, .int .i64 0, .int .i64 0, .int .i64 0, .int .i64 0, .int .i64 0].toArray 87) → ∃ (I4 : Int → Int → Int → Int → Option Addr → Nat → Nat → Int → Int → Int → Int → World → Prop) (m4 : Int → Int → Int → Int → Option Addr → Nat → Nat → Int → Int → Int → Int → World → Nat), I4 0 0 0 0 none 0 0 0 0 0 0 w3 ∧ ∀ n5 n6 n7 n8 a9 l9 c9 n10 n11 n12 n13 w14, I4 n5 n6 n7 n8 a9 l9 c9 n10 n11 n12 n13 w14 → ifB (decide (n5 < 7)) (Ab l (fun d15 => (0 ≤ (IntKind.i64.wrap (n5 + 1)) ∧ (IntKind.i64.wrap (n5 + 1)) < (l_n : Nat)) ∧ ∃ s16, w14.cell? (Addr.add d15 ((IntKind.i64.wrap (n5 + 1)).toNat * 1)) = some (.string s16) ∧ Aa Tryz.prog 45 [.string s16] w14 (RetR R fun u18 w17 => ∃ n19 b20, u18 = .tuple #[.int .i64 n19, .bool b20] ∧ ifB (!b20) (R (.returned (.tuple #[.agg #[.int .i64 0, .int .i64 0, .int .i64 0, .slice none 0 0, .int .i64 0, .int .i64 0, .int .i64 0, .int .i64 0], .bool false])) w17) ((0 ≤ n5 ∧ n5 < (7 : Nat)) ∧ Aq w17 (Addr.add (⟨b2, 0, none⟩ : Addr) (n5.toNat * 1)) 0 [.int .i64 n19] ∧ ∀ w22, w22 = setCells w17 (Addr.add (⟨b2, 0, none⟩ : Addr) (n5.toNat * 1)) 0 [.int .i64 n19] → (I4 (IntKind.i64.wrap (n5 + 1)) n6 n7 n8 a9 l9 c9 n10 n11 n12 n13 w22 ∧ m4 (IntKind.i64.wrap (n5 + 1)) n6 n7 n8 a9 l9 c9 n10 n11 n12 n13 w22 < m4 n5 n6 n7 n8 a9 l9 c9 n10 n11 n12 n13 w14))))) ((0 ≤ (0 : Int) ∧ (0 : Int) < (7 : Nat)) ∧ ∃ n23, w14.cell? ⟨b2, 0, none⟩ = some (.int .i64 n23) ∧ (0 ≤ (1 : Int) ∧ (1 : Int) < (7 : Nat)) ∧ ∃ n24, w14.cell? ⟨b2, 1, none⟩ = some (.int .i64 n24) ∧ (0 ≤ (2 : Int) ∧ (2 : Int) < (7 : Nat)) ∧ ∃ n25, w14.cell? ⟨b2, 2, none⟩ = some (.int .i64 n25) ∧ (0 ≤ (3 : Int) ∧ (3 : Int) < (7 : Nat)) ∧ ∃ n26, w14.cell? ⟨b2, 3, none⟩ = some (.int .i64 n26) ∧ (0 ≤ (4 : Int) ∧ (4 : Int) < (7 : Nat)) ∧ ∃ n27, w14.cell? ⟨b2, 4, none⟩ = some (.int .i64 n27) ∧ (0 ≤ (5 : Int) ∧ (5 : Int) < (7 : Nat)) ∧ ∃ n28, w14.cell? ⟨b2, 5, none⟩ = some (.int .i64 n28) ∧ (0 ≤ (6 : Int) ∧ (6 : Int) < (7 : Nat)) ∧ ∃ n29, w14.cell? ⟨b2, 6, none⟩ = some (.int .i64 n29) ∧ R (.returned (.tuple #[.agg #[.int .i64 n23, .int .i64 n24, .int .i64 n25, .slice none 0 0, .int .i64 n26, .int .i64 n27, .int .i64 n28, .int .i64 n29], .bool true])) w14))
theorem sx25.ok {l : Option Addr} {l_n l_c : Nat} {R : Ending → World → Prop} {w : World} (h : sx25 l l_n l_c R w) : Aa Tryz.prog 25 [.slice l l_n l_c] w R :=
 okOf { locals := [2], loops := [(5, { slots := [(5, .int .i64)], cells := [(2, 25, [.int .i64, .int .i64, .int .i64, .slice, .int .i64, .int .i64, .int .i64, .int .i64])] })] } mix Tryz.func25 (by kernel_rfl) (by kernel_rfl) (by kernel_rfl) h
def sx26 (l : Option Addr) (l_n l_c : Nat) (R : Ending → World → Prop) (w : World) : Prop :=
 ∀ w1, Grew w w1 → ifB (((l_n : Nat) : Int) != 4) (R (.returned (.tuple #[.agg #[.int .i64 0, .int .i64 0, .float .f64 0], .bool false])) w1) (Ab l (fun d2 => (0 ≤ (1 : Int) ∧ (1 : Int) < (l_n : Nat)) ∧ ∃ s3, w1.cell? (Addr.add d2 1) = some (.string s3) ∧ Aa Tryz.prog 45 [.string s3] w1 (RetR R fun u5 w4 => ∃ n6 b7, u5 = .tuple #[.int .i64 n6, .bool b7] ∧ Ab l (fun d9 => (0 ≤ (2 : Int) ∧ (2 : Int) < (l_n : Nat)) ∧ ∃ s10, w4.cell? (Addr.add d9 2) = some (.string s10) ∧ Aa Tryz.prog 45 [.string s10] w4 (RetR R fun u12 w11 => ∃ n13 b14, u12 = .tuple #[.int .i64 n13, .bool b14] ∧ Ab l (fun d16 => (0 ≤ (3 : Int) ∧ (3 : Int) < (l_n : Nat)) ∧ ∃ s17, w11.cell? (Addr.add d16 3) = some (.string s17) ∧ Aa Tryz.prog 46 [.string s17] w11 (RetR R fun u19 w18 => ∃ x20 b21, u19 = .tuple #[.float .f64 x20, .bool b21] ∧ ifB b7 (ifB b14 (R (.returned (.tuple #[.agg #[.int .i64 n6, .int .i64 n13, .float .f64 x20], .bool b21])) w18) (R (.returned (.tuple #[.agg #[.int .i64 n6, .int .i64 n13, .float .f64 x20], .bool false])) w18)) (R (.returned (.tuple #[.agg #[.int .i64 n6, .int .i64 n13, .float .f64 x20], .bool false])) w18))))))))
theorem sx26.ok {l : Option Addr} {l_n l_c : Nat} {R : Ending → World → Prop} {w : World} (h : sx26 l l_n l_c R w) : Aa Tryz.prog 26 [.slice l l_n l_c] w R :=
 okOf { locals := [2] } mix Tryz.func26 (by kernel_rfl) (by kernel_rfl) (by kernel_rfl) h
def sx27 (d : Option Addr) (d_n d_c : Nat) (R : Ending → World → Prop) (w : World) : Prop :=
  ∀ w1, Grew w w1 → Ab d (fun d2 => (0 ≤ (0 : Int) ∧ (0 : Int) < (d_n : Nat)) ∧ ∃ s3, w1.cell? d2 = some (.string s3) ∧ Aa Tryz.prog 24 [.string s3] w1 (RetR R fun u5 w4 => ∃ s6 n7, u5 = .tuple #[.string s6, .int .i64 n7] ∧ ∀ n9 : Int, n9 = IntKind.i64.wrap (((ByteArray.size s6 : Nat) : Int) + 1) → ifB (((d_n : Nat) : Int) != n9) (R (.returned (.tuple #[.agg #[.int .i64 0, .int .i64 0, .int .i64 0, .int .u64 0, .float .f64 0], .bool false])) w4) (∀ w10, Grew w4 w10 → ∃ (I11 : Bool → Int → Int → Int → Int → Int → Nat → World → Prop) (m11 : Bool → Int → Int → Int → Int → Int → Nat → World → Nat), I11 true 0 n7 0 0 0 0 w10 ∧ ∀ b12 n13 n14 n15 n16 n17 x18 w19, I11 b12 n13 n14 n15 n16 n17 x18 w19 → ifB (decide (n13 < ((ByteArray.size s6 : Nat) : Int))) (ifB b12 (∃ (b20 : UInt8), (0 ≤ n13 ∧ (s6).data[n13.toNat]? = some b20) ∧ ifB ((b20.toNat : Int) == 110) (Ab d (fun d21 => (0 ≤ (IntKind.i64.wrap (n13 + 1)) ∧ (IntKind.i64.wrap (n13 + 1)) < (d_n : Nat)) ∧ ∃ s22, w19.cell? (Addr.add d21 ((IntKind.i64.wrap (n13 + 1)).toNat * 1)) = some (.string s22) ∧ Aa Tryz.prog 45 [.string s22] w19 (RetR R fun u24 w23 => ∃ n25 b26, u24 = .tuple #[.int .i64 n25, .bool b26] ∧ (I11 b26 (IntKind.i64.wrap (n13 + 1)) n14 n25 n16 n17 x18 w23 ∧ m11 b26 (IntKind.i64.wrap (n13 + 1)) n14 n25 n16 n17 x18 w23 < m11 b12 n13 n14 n15 n16 n17 x18 w19)))) (ifB ((b20.toNat : Int) == 107) (Ab d (fun d28 => (0 ≤ (IntKind.i64.wrap (n13 + 1)) ∧ (IntKind.i64.wrap (n13 + 1)) < (d_n : Nat)) ∧ ∃ s29, w19.cell? (Addr.add d28 ((IntKind.i64.wrap (n13 + 1)).toNat * 1)) = some (.string s29) ∧ Aa Tryz.prog 45 [.string s29] w19 (RetR R fun u31 w30 => ∃ n32 b33, u31 = .tuple #[.int .i64 n32, .bool b33] ∧ (I11 b33 (IntKind.i64.wrap (n13 + 1)) n14 n15 n32 n17 x18 w30 ∧ m11 b33 (IntKind.i64.wrap (n13 + 1)) n14 n15 n32 n17 x18 w30 < m11 b12 n13 n14 n15 n16 n17 x18 w19)))) (ifB ((b20.toNat : Int) == 117) (Ab d (fun d35 => (0 ≤ (IntKind.i64.wrap (n13 + 1)) ∧ (IntKind.i64.wrap (n13 + 1)) < (d_n : Nat)) ∧ ∃ s36, w19.cell? (Addr.add d35 ((IntKind.i64.wrap (n13 + 1)).toNat * 1)) = some (.string s36) ∧ Aa Tryz.prog 47 [.string s36] w19 (RetR R fun u38 w37 => ∃ n39 b40, u38 = .tuple #[.int .u64 n39, .bool b40] ∧ (I11 b40 (IntKind.i64.wrap (n13 + 1)) n14 n15 n16 n39 x18 w37 ∧ m11 b40 (IntKind.i64.wrap (n13 + 1)) n14 n15 n16 n39 x18 w37 < m11 b12 n13 n14 n15 n16 n17 x18 w19)))) (ifB ((b20.toNat : Int) == 118) (Ab d (fun d42 => (0 ≤ (IntKind.i64.wrap (n13 + 1)) ∧ (IntKind.i64.wrap (n13 + 1)) < (d_n : Nat)) ∧ ∃ s43, w19.cell? (Addr.add d42 ((IntKind.i64.wrap (n13 + 1)).toNat * 1)) = some (.string s43) ∧ Aa Tryz.prog 46 [.string s43] w19 (RetR R fun u45 w44 => ∃ x46 b47, u45 = .tuple #[.float .f64 x46, .bool b47] ∧ (I11 b47 (IntKind.i64.wrap (n13 + 1)) n14 n15 n16 n17 x46 w44 ∧ m11 b47 (IntKind.i64.wrap (n13 + 1)) n14 n15 n16 n17 x46 w44 < m11 b12 n13 n14 n15 n16 n17 x18 w19)))) ((I11 b12 (IntKind.i64.wrap (n13 + 1)) n14 n15 n16 n17 x18 w19 ∧ m11 b12 (IntKind.i64.wrap (n13 + 1))
 n14 n15 n16 n17 x18 w19 < m11 b12 n13 n14 n15 n16 n17 x18 w19)))))) (R (.returned (.tuple #[.agg #[.int .i64 n14, .int .i64 n15, .int .i64 n16, .int .u64 n17, .float .f64 x18], .bool b12])) w19)) (R (.returned (.tuple #[.agg #[.int .i64 n14, .int .i64 n15, .int .i64 n16, .int .u64 n17, .float .f64 x18], .bool b12])) w19))))
theorem sx27.ok {d : Option Addr} {d_n d_c : Nat} {R : Ending → World → Prop} {w : World} (h : sx27 d d_n d_c R w) : Aa Tryz.prog 27 [.slice d d_n d_c] w R :=
 okOf { locals := [2, 6], named := [28], loops := [(7, { slots := [(7, .bool), (8, .int .i64)], cells := [(6, 46, [.int .i64, .int .i64, .int .i64, .int .u64, .float .f64])] })] } mix Tryz.func27 (by kernel_rfl) (by kernel_rfl) (by kernel_rfl) h
@[reducible] def Lj (p : ScrP) : Value := .agg #[.int .i64 p.n0, .int .i64 p.n1, .int .i64 p.n2, .slice none 0 0, .int .i64 p.n3, .int .i64 p.n4, .int .i64 p.n5, .int .i64 p.n6]
def O7 : Option ScrP → Value
 | some p => .tuple #[Lj p, .bool true]
 | none => .tuple #[Lj ⟨0, 0, 0, 0, 0, 0, 0, []⟩, .bool false]
theorem Nv {a : Option Addr} {n c : Nat} {word : L8} {args : List L8} {w : World} (hr : Reads w Enc.text (a, n, c) (word :: args)) (hl : ∀ x ∈ args, x.length ≤ 1000000000) :
  Aa Tryz.prog 25 [.slice a n c] w (Rets fun v w' => v = O7 (Cm args) ∧ Grew w w') := by
 refine sx25.ok ?_
 unfold sx25
 have hn : n = args.length + 1 := hr.2.1
 subst hn
 have no : Cm args = none → ∀ w', Grew w w' → Rets (fun v w' => v = O7 (Cm args) ∧ Grew w w') (.returned (.tuple #[.agg #[.int .i64 0, .int .i64 0, .int .i64 0, .slice none 0 0, .int .i64 0, .int .i64 0, .int .i64 0, .int .i64 0], .bool false])) w' := fun h w' hg => ⟨_, rfl, by rw [h]; rfl, hg⟩
 intro w1 hg1
 refine ⟨fun hne => no (Ja fun e => ?_) _ hg1, fun heq => ?_⟩
 ·rw [e] at hne; cases hne
 have h7 : args.length = 7 := by simp only [bne_eq_false_iff_eq] at heq; omega
 intro b2 w3 hal
 refine ⟨fun k _ _ _ _ _ _ _ _ _ _ w' => ∃ (j : Nat) (ns : List Int), k = j ∧ j ≤ 7 ∧ ns.length = 7 ∧ (∀ i a v, i < j → args[i]? = some a → ns[i]? = some v → numL a = some v) ∧ Row w' b2 87 (ns.map (Value.int .i64)) ∧ Grew w w', fun k _ _ _ _ _ _ _ _ _ _ _ => 7 - k.toNat,
  ⟨0, [0, 0, 0, 0, 0, 0, 0], rfl, by omega, rfl, fun i a v h => (by omega), hal.at_, hg1.trans hal.grew⟩, ?_⟩
 rintro k _ _ _ _ _ _ _ _ _ _ w14 ⟨j, ns, rfl, hj, hns, hnum, hrow, hg14⟩
 refine ⟨fun hlt => ?_, fun hge => ?_⟩
 ·simp only [decide_eq_true_eq] at hlt
  have hj7 : j < 7 := by omega
  have ew := Bj (j := j) (by omega)
  rw [ew]
  obtain ⟨d, y, hd, hy, hc⟩ := (hr.grew hg14).at0 (k := j + 1) (by omega)
  have hy : args[j]? = some y := by simpa using hy
  rw [hd, Ab, Int.toNat_natCast]
  refine ⟨⟨by omega, by omega⟩, _, by simpa [Enc.text, Ag, Addr.add] using hc, (C9 (hl y (List.mem_of_getElem? hy))).use fun v w17 ⟨hv, hw⟩ => ?_⟩
  subst hv; subst hw
  cases hnl : numL y with
  | none => exact ⟨_, _, rfl, fun _ => no (Jb h7 hy hnl) _ hg14, fun h => (by cases h)⟩
  | some z =>
   obtain ⟨t1, t2, t3⟩ := hrow.set1 (o := j) (by simp; omega) (.int .i64 z)
   refine ⟨_, _, rfl, fun h => (by cases h), fun _ => ⟨⟨by omega, by omega⟩, by rw [Int.toNat_natCast, Nat.mul_one, Bd, Nat.zero_add]; exact t1, ?_⟩⟩
   rintro w22 rfl
   rw [Int.toNat_natCast, Nat.mul_one, Bd, Nat.zero_add]
   have e : (ns.map (Value.int .i64)).set j (.int .i64 z) = (ns.set j z).map (Value.int .i64) := by rw [List.map_set]
   rw [e] at t2
   refine ⟨⟨j + 1, ns.set j z, rfl, by omega, by simpa using hns, fun i a v hi ha hv => ?_, t2, hg14.then_own t3 fun x hx => by subst hx; exact Nat.le_trans hg1.size hal.new⟩, ?_⟩
   ·rw [List.getElem?_set] at hv
    split at hv
    ·rename_i e; subst e
     split at hv
     ·cases hv; rw [hy] at ha; cases ha; exact hnl
     ·cases hv
    ·exact hnum i a v (by omega) ha hv
   ·show 7 - (((j + 1 : Nat) : Int)).toNat < 7 - ((j : Nat) : Int).toNat; omega
 ·simp only [decide_eq_false_iff_not] at hge
  have : j = 7 := by omega
  subst this
  obtain ⟨p, hpl, hpn, hpo⟩ := Ib h7 hns fun i a v ha hv => hnum i a v (by have := (List.getElem?_eq_some_iff.1 ha).1; omega) ha hv
  have hcell : ∀ (k : Nat) (z : Int), (Cg (some p))[k]? = some z → w14.cell? ⟨b2, k, none⟩ = some (.int .i64 z) := fun k z hz => by
   rw [hrow.cell, List.getElem?_map, ← hpn, hz]; rfl
  refine ⟨by decide, _, hcell 0 _ rfl, by decide, _, hcell 1 _ rfl, by decide, _, hcell 2 _ rfl, by decide, _, hcell 3 _ rfl, by decide, _, hcell 4 _ rfl, by decide, _, hcell 5 _ rfl, by decide, _, hcell 6 _ rfl, _, rfl, by rw [hpl]; rfl, hg14⟩
theorem Pl {a : Option Addr} {n c : Nat} {word : L8} {args : List L8} {w : World} (hr : Reads w Enc.text (a, n, c) (word :: args)) (hl : ∀ x ∈ args, x.length ≤ 1000000000) :
  Aa Tryz.prog 26 [.slice a n c] w (Rets fun v w' => (∃ o : OpV, v = .tuple #[o.v, .bool (opL args).isSome] ∧ (∀ o', opL args = some o' → o' = o)) ∧ Grew w w') := by
 refine sx26.ok ?_
 unfold sx26
 have hn : n = args.length + 1 := hr.2.1
 subst hn
 intro w1 hg1
 refine ⟨fun hne => ⟨_, rfl, ⟨⟨0, 0, 0⟩, ?_, ?_⟩, hg1⟩, fun heq => ?_⟩
 all_goals try
  have hno : opL args = none := by
   unfold opL; split
   ·simp at hne
   ·rfl
 ·rw [hno]; rfl
 ·rw [hno]; intro o' h; cases h
 have h3 : args.length = 3 := by simp only [bne_eq_false_iff_eq] at heq; omega
 obtain ⟨a0, a1, a2, rfl⟩ : ∃ a b c, args = [a, b, c] := by
  match args, h3 with
  | [a, b, c], _ => exact ⟨_, _, _, rfl⟩
 obtain ⟨d0, y0, hd0, hy0, hc0⟩ := (hr.grew hg1).at0 (k := 1) (by simp)
 obtain ⟨d1, y1, hd1, hy1, hc1⟩ := (hr.grew hg1).at0 (k := 2) (by simp)
 obtain ⟨d2, y2, hd2, hy2, hc2⟩ := (hr.grew hg1).at0 (k := 3) (by simp)
 rw [hd0] at hd1 hd2; cases hd1; cases hd2
 cases hy0; cases hy1; cases hy2
 rw [hd0, Ab]
 refine ⟨by simp, _, by simpa [Enc.text, Ag, Addr.add] using hc0, (C9 (hl a0 (by simp))).use fun v w4 ⟨hv, hw⟩ => ?_⟩
 subst hv; subst hw
 have n0 : ∃ z b, numR (numL a0) = .tuple #[.int .i64 z, .bool b] ∧ b = (numL a0).isSome ∧ ∀ z', numL a0 = some z' → z' = z := by cases numL a0 <;> exact ⟨_, _, rfl, rfl, fun z' h => by cases h <;> rfl⟩
 have n1 : ∃ z b, numR (numL a1) = .tuple #[.int .i64 z, .bool b] ∧ b = (numL a1).isSome ∧ ∀ z', numL a1 = some z' → z' = z := by cases numL a1 <;> exact ⟨_, _, rfl, rfl, fun z' h => by cases h <;> rfl⟩
 have n2 : ∃ z b, fltR (fltL a2) = .tuple #[.float .f64 z, .bool b] ∧ b = (fltL a2).isSome ∧ ∀ z', fltL a2 = some z' → z' = z := by cases fltL a2 <;> exact ⟨_, _, rfl, rfl, fun z' h => by cases h <;> rfl⟩
 obtain ⟨z0, b0, e0, h0, u0⟩ := n0
 obtain ⟨z1, b1, e1, h1, u1⟩ := n1
 obtain ⟨z2, b2, e2, h2, u2⟩ := n2
 refine ⟨_, _, e0, ?_⟩
 rw [Ab]
 refine ⟨by simp, _, by simpa [Enc.text, Ag, Addr.add] using hc1, (C9 (hl a1 (by simp))).use fun v w11 ⟨hv, hw⟩ => ?_⟩
 subst hv; subst hw
 refine ⟨_, _, e1, ?_⟩
 rw [Ab]
 refine ⟨by simp, _, by simpa [Enc.text, Ag, Addr.add] using hc2, (Jc (s := a2)).use fun v w18 ⟨hv, hw⟩ => ?_⟩
 subst hv; subst hw
 have hop : opL [a0, a1, a2] = (numL a0).bind fun x => (numL a1).bind fun y => (fltL a2).map fun z => ⟨x, y, z⟩ := by
  simp only [opL]
  cases numL a0 <;> cases numL a1 <;> cases fltL a2 <;> rfl
 have hsome : (opL [a0, a1, a2]).isSome = (b0 && b1 && b2) := by
  rw [hop, h0, h1, h2]; cases numL a0 <;> cases numL a1 <;> cases fltL a2 <;> rfl
 have huni : ∀ o', opL [a0, a1, a2] = some o' → o' = ⟨z0, z1, z2⟩ := fun o' h => by
  rw [hop] at h
  cases k0 : numL a0 with
  | none => rw [k0] at h; cases h
  | some q0 =>
   cases k1 : numL a1 with
   | none => rw [k0, k1] at h; cases h
   | some q1 =>
    cases k2 : fltL a2 with
    | none => rw [k0, k1, k2] at h; cases h
    | some q2 =>
     rw [k0, k1, k2] at h
     rw [← u0 _ k0, ← u1 _ k1, ← u2 _ k2]
     simpa using h.symm
 refine ⟨_, _, e2, fun hb0 => ⟨fun hb1 => ⟨_, rfl, ⟨⟨z0, z1, z2⟩, ?_, huni⟩, hg1⟩, fun hb1 => ⟨_, rfl, ⟨⟨z0, z1, z2⟩, ?_, huni⟩, hg1⟩⟩, fun hb0 => ⟨_, rfl, ⟨⟨z0, z1, z2⟩, ?_, huni⟩, hg1⟩⟩
 ·rw [hsome, hb0, hb1]; simp
 ·rw [hsome, hb0, hb1]; simp
 ·rw [hsome, hb0]; simp
theorem Nw {a : Option Addr} {n c : Nat} {word : L8} {args : List L8} {k : Nat} {asks : L8} {w : World} (hr : Reads w Enc.text (a, n, c) (word :: args)) (hl : ∀ x ∈ args, x.length ≤ 1000000000) (hw : Bi word = some (k, asks)) (hlen : args.length ≤ 1000000000) :
  Aa Tryz.prog 27 [.slice a n c] w (Rets fun v w' => (∃ s : Ah, v = .tuple #[s.val, .bool (Aw asks args (step0 k)).isSome] ∧ (∀ s', Aw asks args (step0 k) = some s' → s' = s)) ∧ Grew w w') := by
 refine sx27.ok ?_
 unfold sx27
 have hn : n = args.length + 1 := hr.2.1
 subst hn
 obtain ⟨ht, -⟩ := Kt hw
 obtain ⟨-, la⟩ : word.length ≤ 7 ∧ asks.length ≤ 3 := by
  have : ∀ x ∈ tabW, x.1.length ≤ 7 ∧ x.2.length ≤ 3 := by decide
  exact this _ (List.mem_of_getElem? ht)
 intro w1 hg1
 obtain ⟨d, y, hd, hy, hc⟩ := (hr.grew hg1).at0 (k := 0) (by omega)
 cases hy
 subst hd
 rw [Ab]
 refine ⟨⟨by omega, by omega⟩, _, by simpa [Enc.text, Ag, Addr.add] using hc, (L6 (s := word)).use fun v w4 ⟨hv, hw4⟩ => ?_⟩
 subst hv
 rw [hw, hw4]
 refine ⟨_, _, rfl, ?_⟩
 rintro n9 rfl
 have e9 : IntKind.i64.wrap (((ByteArray.size (bs asks) : Nat) : Int) + 1) = ((asks.length + 1 : Nat) : Int) := by rw [Ao, IntKind.wrap_i64]; omega
 rw [e9]
 refine ⟨fun hne => ⟨_, rfl, ⟨⟨0, 0, 0, ⟨0, 0⟩⟩, ?_, ?_⟩, hg1⟩, fun heq w10 hg10 => ?_⟩
 all_goals try
  have hno : Aw asks args (step0 k) = none := Ft _ _ _ fun e => by rw [e] at hne; simp at hne
 ·rw [hno]; rfl
 ·rw [hno]; intro s' h; cases h
 have hla : asks.length = args.length := by simp only [bne_eq_false_iff_eq] at heq; omega
 rw [Ao]
 refine ⟨fun ok i kd nd nn ky vl w' => ∃ (j : Nat) (cur : Ah), i = j ∧ kd = cur.kind ∧ nd = cur.node ∧ nn = cur.n ∧ ky = cur.r.key ∧ vl = cur.r.val ∧ j ≤ asks.length ∧ (if ok then Aw asks args (step0 k) = Aw (asks.drop j) (args.drop j) cur else Aw asks args (step0 k) = none) ∧ Grew w w', fun _ i _ _ _ _ _ _ => asks.length - i.toNat,
  ⟨0, step0 k, rfl, rfl, rfl, rfl, rfl, rfl, Nat.zero_le _, by simp, hg1.trans hg10⟩, ?_⟩
 rintro ok i kd nd nn ky vl w19 ⟨j, cur, rfl, rfl, rfl, rfl, rfl, rfl, hj, hset, hg19⟩
 have fin : ok = false ∨ j = asks.length → (∃ s : Ah, (Value.tuple #[.agg #[.int .i64 cur.kind, .int .i64 cur.node, .int .i64 cur.n, .int .u64 cur.r.key, .float .f64 cur.r.val], .bool ok]) = .tuple #[s.val, .bool (Aw asks args (step0 k)).isSome] ∧ (∀ s', Aw asks args (step0 k) = some s' → s' = s)) ∧ Grew w w19 := fun h => by
  refine ⟨⟨cur, ?_, ?_⟩, hg19⟩
  all_goals
   cases ok with
   | false => rw [if_neg (by simp)] at hset; rw [hset]; first | rfl | (intro s' h; cases h)
   | true =>
    have hj' : j = asks.length := h.resolve_left (by simp)
    rw [if_pos rfl, List.drop_eq_nil_of_le (by omega), List.drop_eq_nil_of_le (by omega)] at hset
    rw [hset]; first | rfl | (intro s' h; cases h; rfl)
 refine ⟨fun hlt => ⟨fun hok => ?_, fun hok => ⟨_, rfl, fin (.inl hok)⟩⟩, fun hge => ⟨_, rfl, fin (.inr ?_)⟩⟩
 ·simp only [decide_eq_true_eq] at hlt
  have hjl : j < asks.length := by omega
  have hjl' : j < args.length := by omega
  rw [hok, if_pos rfl] at hset
  have ew := Bj (j := j) (by omega)
  rw [ew]
  obtain ⟨d', y, hd, hy, hc⟩ := (hr.grew hg19).at0 (k := j + 1) (by omega)
  cases hd
  have hy : args[j]? = some y := by simpa using hy
  have hyj : args[j] = y := by rw [List.getElem?_eq_getElem hjl'] at hy; exact Option.some.inj hy
  have hly := hl y (List.mem_of_getElem? hy)
  have hcell : w19.cell? (Addr.add d ((((j + 1 : Nat) : Int)).toNat * 1)) = some (.string (bs y)) := by simpa [Enc.text, Ag, Addr.add] using hc
  have hred : Aw (asks.drop j) (args.drop j) cur = (setA asks[j] y cur).bind (Aw (asks.drop (j + 1)) (args.drop (j + 1))) := by
   rw [List.drop_eq_getElem_cons hjl, List.drop_eq_getElem_cons hjl', hyj]; rfl
  rw [hred] at hset
  have hm : asks.length - (((j + 1 : Nat) : Int)).toNat < asks.length - ((j : Nat) : Int).toNat := by omega
  have hqs := Ia ht asks[j] (List.getElem_mem _)
  have nxt : ∀ (b : Bool) (cur' : Ah), (b = true → setA asks[j] y cur = some cur') → (b = false → setA asks[j] y cur = none) → ∀ w', Grew w w' → ∃ (j' : Nat) (c2 : Ah), ((j + 1 : Nat) : Int) = j' ∧ cur'.kind = c2.kind ∧ cur'.node = c2.node ∧ cur'.n = c2.n ∧ cur'.r.key = c2.r.key ∧ cur'.r.val = c2.r.val ∧ j' ≤ asks.length ∧ (if b then Aw asks args (step0 k) = Aw (asks.drop j') (args.drop j') c2 else Aw asks args (step0 k) = none) ∧ Grew w w' := fun b cur' h1 h2 w' hg => by
   refine ⟨j + 1, cur', rfl, rfl, rfl, rfl, rfl, rfl, hjl, ?_, hg⟩
   cases b with
   | true => rw [if_pos rfl, hset, h1 rfl]; rfl
   | false => rw [if_neg (by simp), hset, h2 rfl]; rfl
  simp only [Ab]
  refine ⟨asks[j], ⟨by omega, by rw [Int.toNat_natCast, Do, List.getElem?_eq_getElem hjl]⟩, fun h110 => ⟨⟨by omega, by omega⟩, _, hcell, (C9 hly).use fun v w23 ⟨hv, hw⟩ => ?_⟩, fun n110 => ⟨fun h107 => ⟨⟨by omega, by omega⟩, _, hcell, (C9 hly).use fun v w23 ⟨hv, hw⟩ => ?_⟩, fun n107 => ⟨fun h117 => ⟨⟨by omega, by omega⟩, _, hcell, (L4 hly).use fun v w23 ⟨hv, hw⟩ => ?_⟩, fun n117 => ⟨fun h118 => ⟨⟨by omega, by omega⟩, _, hcell, (Jc (s := y)).use fun v w23 ⟨hv, hw⟩ => ?_⟩, fun n118 => ?_⟩⟩⟩⟩
  ·have hq : asks[j] = 110 := by rcases hqs with h | h | h | h <;> rw [h] at h110 ⊢ <;> revert h110 <;> decide
   subst hv
   rw [hw]
   have hA := H3 y cur
   rw [← hq] at hA
   cases hnl : numL y with
   | none => rw [hnl] at hA; exact ⟨_, _, rfl, nxt false { cur with node := 0 } (fun h => by cases h) (fun _ => hA) _ hg19, hm⟩
   | some z => rw [hnl] at hA; exact ⟨_, _, rfl, nxt true { cur with node := z } (fun _ => hA) (fun h => by cases h) _ hg19, hm⟩
  ·have hq : asks[j] = 107 := by rcases hqs with h | h | h | h <;> rw [h] at h107 n110 ⊢ <;> revert h107 n110 <;> decide
   subst hv
   rw [hw]
   have hA := H4 y cur
   rw [← hq] at hA
   cases hnl : numL y with
   | none => rw [hnl] at hA; exact ⟨_, _, rfl, nxt false { cur with n := 0 } (fun h => by cases h) (fun _ => hA) _ hg19, hm⟩
   | some z => rw [hnl] at hA; exact ⟨_, _, rfl, nxt true { cur with n := z } (fun _ => hA) (fun h => by cases h) _ hg19, hm⟩
  ·have hq : asks[j] = 117 := by rcases hqs with h | h | h | h <;> rw [h] at h117 ⊢ <;> revert h117 <;> decide
   subst hv
   rw [hw]
   have hA := H5 y cur
   rw [← hq] at hA
   cases hnl : keyL y with
   | none => rw [hnl] at hA; exact ⟨_, _, rfl, nxt false { cur with r := { cur.r with key := 0 } } (fun h => by cases h) (fun _ => hA) _ hg19, hm⟩
   | some z => rw [hnl] at hA; exact ⟨_, _, rfl, nxt true { cur with r := { cur.r with key := (z : Int) } } (fun _ => hA) (fun h => by cases h) _ hg19, hm⟩
  ·have hq : asks[j] = 118 := by rcases hqs with h | h | h | h <;> rw [h] at h118 ⊢ <;> revert h118 <;> decide
   subst hv
   rw [hw]
   have hA := H6 y cur
   rw [← hq] at hA
   cases hnl : fltL y with
   | none => rw [hnl] at hA; exact ⟨_, _, rfl, nxt false { cur with r := { cur.r with val := 0 } } (fun h => by cases h) (fun _ => hA) _ hg19, hm⟩
   | some z => rw [hnl] at hA; exact ⟨_, _, rfl, nxt true { cur with r := { cur.r with val := z } } (fun _ => hA) (fun h => by cases h) _ hg19, hm⟩
  ·exfalso
   rcases hqs with h | h | h | h <;> rw [h] at n110 n107 n117 n118
   ·exact absurd n110 (by decide)
   ·exact absurd n107 (by decide)
   ·exact absurd n117 (by decide)
   ·exact absurd n118 (by decide)
 ·simp only [decide_eq_false_iff_not] at hge; omega
end Go.Proofs.YtbmmaibbiahkkaaGreatDoor
