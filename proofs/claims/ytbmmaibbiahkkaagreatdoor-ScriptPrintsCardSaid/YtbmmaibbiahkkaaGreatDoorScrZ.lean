/- The reference's scripts printed. Conditions: none. -/
import Derived.Test.YtbmmaibbiahkkaaGreatDoorProg
import Derived.Test.YtbmmaibbiahkkaaGreatDoorScrY
namespace Go.Proofs.YtbmmaibbiahkkaaGreatDoor
open Go.Sx
set_option maxRecDepth 100000
set_option linter.unusedVariables false
set_option linter.unusedSimpArgs false
def sx16 (d_0 d_1 d_2 : Int) (d_3 : Option Addr) (d_3_n d_3_c : Nat) (d_4 d_5 d_6 d_7 : Int) (i : Option Addr) (i_n i_c : Nat) (R : Ending → World → Prop) (w : World) : Prop :=
  ∀ w1, Grew w w1 → ifB (decide (((i_n : Nat) : Int) > 4096)) (R (.returned (.tuple #[.string (ByteArray.mk (#[]) : ByteArray), .int .i64 212])) w1) (∀ b2 w3, An w1 w3 b2 (.cells #[] 5) → SemW Tryz.prog (Builtin.append_ #[39, 9] 39 #[.slice (some ⟨b2, 0, none⟩) 0 0, .string (ByteArray.mk (#[112, 108, 97, 110]) : ByteArray)]) (fun u5 w4 => ∃ a6 l6 c6, u5 = .slice a6 l6 c6 ∧ ∀ b7 w8, An w4 w8 b7 (.cells [.int .i64 0, .int .i64 0, .int .i64 0, .int .i64 0, .int .i64 0, .int .i64 0, .int .i64 0].toArray 87) → Ap w8 ⟨b7, 0, none⟩ 0 [.int .i64 d_0, .int .i64 d_1, .int .i64 d_2, .int .i64 d_4, .int .i64 d_5, .int .i64 d_6, .int .i64 d_7] ∧ ∀ w9, w9 = setCells w8 ⟨b7, 0, none⟩ 0 [.int .i64 d_0, .int .i64 d_1, .int .i64 d_2, .int .i64 d_4, .int .i64 d_5, .int .i64 d_6, .int .i64 d_7] → ∃ (I10 : Option Addr → Nat → Nat → Int → World → Prop) (m10 : Option Addr → Nat → Nat → Int → World → Nat), I10 a6 l6 c6 0 w9 ∧ ∀ a11 l11 c11 n12 w13, I10 a11 l11 c11 n12 w13 → ifB (decide (n12 < 7)) (∀ b14 w15, An w13 w15 b14 (.cells #[.int .u8 32] 5) → SemW Tryz.prog (Builtin.append_ #[39, 39] 39 #[.slice a11 l11 c11, .slice (some ⟨b14, 0, none⟩) 1 1]) (fun u17 w16 => ∃ a18 l18 c18, u17 = .slice a18 l18 c18 ∧ (0 ≤ n12 ∧ n12 < (7 : Nat)) ∧ ∃ n19, w16.cell? (Addr.add (⟨b7, 0, none⟩ : Addr) (n12.toNat * 1)) = some (.int .i64 n19) ∧ Aa Tryz.prog 37 [.int .i64 n19] w16 (RetR R fun u21 w20 => ∃ s22, u21 = .string s22 ∧ SemW Tryz.prog (Builtin.append_ #[39, 9] 39 #[.slice a18 l18 c18, .string s22]) (fun u25 w24 => ∃ a26 l26 c26, u25 = .slice a26 l26 c26 ∧ (I10 a26 l26 c26 (IntKind.i64.wrap (n12 + 1)) w24 ∧ m10 a26 l26 c26 (IntKind.i64.wrap (n12 + 1)) w24 < m10 a11 l11 c11 n12 w13)) w20)) w15) (∀ b27 w28, An w13 w28 b27 (.cells #[.int .u8 10] 5) → SemW Tryz.prog (Builtin.append_ #[39, 39] 39 #[.slice a11 l11 c11, .slice (some ⟨b27, 0, none⟩) 1 1]) (fun u30 w29 => ∃ a31 l31 c31, u30 = .slice a31 l31 c31 ∧ ∃ J32 : Option Addr → Nat → Nat → World → Prop, (∃ (I33 : Option Addr → Nat → Nat → Int → World → Prop) (m33 : Option Addr → Nat → Nat → Int → World → Nat), I33 a31 l31 c31 0 w29 ∧ ∀ a34 l34 c34 n35 w36, I33 a34 l34 c34 n35 w36 → ifB (decide (n35 < ((d_3_n : Nat) : Int))) (ifB (decide (((l34 : Nat) : Int) ≤ 262144)) (SemW Tryz.prog (Builtin.append_ #[39, 9] 39 #[.slice a34 l34 c34, .string (ByteArray.mk (#[111, 112, 32]) : ByteArray)]) (fun u38 w37 => ∃ a39 l39 c39, u38 = .slice a39 l39 c39 ∧ Ad d_3 (fun d40 => (0 ≤ n35 ∧ n35 < (d_3_n : Nat)) ∧ ∃ n41, w37.cell? (Addr.add d40 (n35.toNat * 3)) = some (.int .i64 n41) ∧ Aa Tryz.prog 37 [.int .i64 n41] w37 (RetR R fun u43 w42 => ∃ s44, u43 = .string s44 ∧ SemW Tryz.prog (Builtin.append_ #[39, 9] 39 #[.slice a39 l39 c39, .string s44]) (fun u47 w46 => ∃ a48 l48 c48, u47 = .slice a48 l48 c48 ∧ ∀ b49 w50, An w46 w50 b49 (.cells #[.int .u8 32] 5) → SemW Tryz.prog (Builtin.append_ #[39, 39] 39 #[.slice a48 l48 c48, .slice (some ⟨b49, 0, none⟩) 1 1]) (fun u52 w51 => ∃ a53 l53 c53, u52 = .slice a53 l53 c53 ∧ Ad d_3
 (fun d54 => (0 ≤ n35 ∧ n35 < (d_3_n : Nat)) ∧ ∃ n55, w51.cell? (Addr.add (Addr.add d54 (n35.toNat * 3)) 1) = some (.int .i64 n55) ∧ Aa Tryz.prog 37 [.int .i64 n55] w51 (RetR R fun u57 w56 => ∃ s58, u57 = .string s58 ∧ SemW Tryz.prog (Builtin.append_ #[39, 9] 39 #[.slice a53 l53 c53, .string s58]) (fun u61 w60 => ∃ a62 l62 c62, u61 = .slice a62 l62 c62 ∧ ∀ b63 w64, An w60 w64 b63 (.cells #[.int .u8 32] 5) → SemW Tryz.prog (Builtin.append_ #[39, 39] 39 #[.slice a62 l62 c62, .slice (some ⟨b63, 0, none⟩) 1 1]) (fun u66 w65 => ∃ a67 l67 c67, u66 = .slice a67 l67 c67 ∧ Ad d_3 (fun d68 => (0 ≤ n35 ∧ n35 < (d_3_n : Nat)) ∧ ∃ x69, w65.cell? (Addr.add (Addr.add d68 (n35.toNat * 3)) 2) = some (.float .f64 x69) ∧ Aa Tryz.prog 38 [.float .f64 x69] w65 (RetR R fun u71 w70 => ∃ s72, u71 = .string s72 ∧ SemW Tryz.prog (Builtin.append_ #[39, 9] 39 #[.slice a67 l67 c67, .string s72]) (fun u75 w74 => ∃ a76 l76 c76, u75 = .slice a76 l76 c76 ∧ ∀ b77 w78, An w74 w78 b77 (.cells #[.int .u8 10] 5) → SemW Tryz.prog (Builtin.append_ #[39, 39] 39 #[.slice a76 l76 c76, .slice (some ⟨b77, 0, none⟩) 1 1]) (fun u80 w79 => ∃ a81 l81 c81, u80 = .slice a81 l81 c81 ∧ (I33 a81 l81 c81 (IntKind.i64.wrap (n35 + 1)) w79 ∧ m33 a81 l81 c81 (IntKind.i64.wrap (n35 + 1)) w79 < m33 a34 l34 c34 n35 w36)) w78) w70))) w64) w56))) w50) w42))) w36) (J32 a34 l34 c34 w36)) (J32 a34 l34 c34 w36)) ∧ ∀ a82 l82 c82 w83, J32 a82 l82 c82 w83 → ∃ (I84 : Option Addr → Nat → Nat → Int → World → Prop) (m84 : Option Addr → Nat → Nat → Int → World → Nat), I84 a82 l82 c82 0 w83 ∧ ∀ a85 l85 c85 n86 w87, I84 a85 l85 c85 n86 w87 → ifB (decide (n86 < ((i_n : Nat) : Int))) (Ad i (fun d88 => (0 ≤ n86 ∧ n86 < (i_n : Nat)) ∧ ∃ n89 n90 n91 n92 x93, Ah w87 (Addr.add d88 (n86.toNat * 5)) 0 [.int .i64 n89, .int .i64 n90, .int .i64 n91, .int .u64 n92, .float .f64 x93] ∧ Aa Tryz.prog 39 [.agg #[.int .i64 n89, .int .i64 n90, .int .i64 n91, .int .u64 n92, .float .f64 x93]] w87 (RetR R fun u95 w94 => ∃ s96 n97, u95 = .tuple #[.string s96, .int .i64 n97] ∧ ifB (n97 != 0) (R (.returned (.tuple #[.string (ByteArray.mk (#[]) : ByteArray), .int .i64 n97])) w94) (SemW Tryz.prog (Builtin.append_ #[39, 9] 39 #[.slice a85 l85 c85, .string s96]) (fun u100 w99 => ∃ a101 l101 c101, u100 = .slice a101 l101 c101 ∧ ∀ b102 w103, An w99 w103 b102 (.cells #[.int .u8 10] 5) → SemW Tryz.prog (Builtin.append_ #[39, 39] 39 #[.slice a101 l101 c101, .slice (some ⟨b102, 0, none⟩) 1 1]) (fun u105 w104 => ∃ a106 l106 c106, u105 = .slice a106 l106 c106 ∧ (I84 a106 l106 c106 (IntKind.i64.wrap (n86 + 1)) w104 ∧ m84 a106 l106 c106 (IntKind.i64.wrap (n86 + 1)) w104 < m84 a85 l85 c85 n86 w87)) w103) w94)))) (ifB (decide (((l85 : Nat) : Int) > 262144)) (R (.returned (.tuple #[.string (ByteArray.mk (#[]) : ByteArray), .int .i64 6])) w87) (SemW Tryz.prog (convert 39 9 (.slice a85 l85 c85)) (fun u108 w107 => ∃ s109, u108 = .string s109 ∧ R (.returned (.tuple #[.string s109, .int .i64 0])) w107) w87))) w28)) w3)
theorem sx16.ok {d_0 d_1 d_2 : Int} {d_3 : Option Addr} {d_3_n d_3_c : Nat} {d_4 d_5 d_6 d_7 : Int} {i : Option Addr} {i_n i_c : Nat} {R : Ending → World → Prop} {w : World} (h : sx16 d_0 d_1 d_2 d_3 d_3_n d_3_c d_4 d_5 d_6 d_7 i i_n i_c R w) : Aa Tryz.prog 16 [.agg #[.int .i64 d_0, .int .i64 d_1, .int .i64 d_2, .slice d_3 d_3_n d_3_c, .int .i64 d_4, .int .i64 d_5, .int .i64 d_6, .int .i64 d_7], .slice i i_n i_c] w R :=
 okOf { locals := [2], sem := [18, 40, 46, 49, 63, 72, 75, 84, 87, 96, 99, 119, 122, 127], loops := [(7, { slots := [(6, .slice), (8, .int .i64)], cells := [] }), (13, { slots := [(6, .slice), (9, .int .i64)], cells := [] }), (23, { slots := [(6, .slice), (10, .int .i64)], cells := [] })], cuts := [(22, { slots := [(6, .slice)], cells := [] })] } mix Tryz.func16 (by kernel_rfl) (by kernel_rfl) (by kernel_rfl) h
abbrev Buf (w : World) (B : Nat) (a : Option Addr) (n c : Nat) (t : L8) := Own w B 5 (Enc.int .u8) a n c (ints t)
theorem Ea {w0 w : World} {a : Option Addr} {n c : Nat} {t s : L8} {k : Value → World → Prop} (h : Buf w w0.heap.size a n c t) (hg : Grew w0 w) (hl : t.length + s.length ≤ 1000000000)
  (hk : ∀ a' n' c' w', Buf w' w0.heap.size a' n' c' (t ++ s) → Grew w0 w' → Upd (Blk a) w w' → k (.slice a' n' c') w') : SemW Tryz.prog (Builtin.append_ #[39, 9] 39 #[.slice a n c, .string (bs s)]) k w := by
 refine H7 uBy uSt iU8 h hg.size (by simp; omega) ?_
 rintro v w' ⟨a', n', c', rfl, ho, hu, hb⟩
 rw [← Kd] at ho
 exact hk _ _ _ _ ho (hg.then_own hu fun b hb => (h.blk hb).1) hu
theorem Dz {w0 w w1 : World} {a : Option Addr} {n c b : Nat} {t : L8} {ch : UInt8} {i : Int} {k : Value → World → Prop} (h : Buf w w0.heap.size a n c t) (hal : An w w1 b (.cells #[.int .u8 i] 5)) (hi : i = (ch.toNat : Int)) (hg : Grew w0 w) (hl : t.length + 1 ≤ 1000000000)
  (hk : ∀ a' n' c' w', Buf w' w0.heap.size a' n' c' (t ++ [ch]) → Grew w0 w' → Upd (Blk a) w w' → k (.slice a' n' c') w') : SemW Tryz.prog (Builtin.append_ #[39, 39] 39 #[.slice a n c, .slice (some ⟨b, 0, none⟩) 1 1]) k w1 := by
 subst hi
 refine D6 (l2 := [(ch.toNat : Int)]) elBy h hal rfl rfl hg.size (by simp [maxLen]; omega) (by simp; omega) ?_
 rintro v w' ⟨a', n', c', rfl, ho, hu, hb⟩
 have e : ints t ++ [(ch.toNat : Int)] = ints (t ++ [ch]) := by simp [ints]
 rw [e] at ho
 exact hk _ _ _ _ ho (hg.then_own hu fun b hb => (h.blk hb).1) hu
theorem Mw {p : ScrP} {steps : List Ai} {o : Sl3} {i : Option Addr} {n c : Nat} {w : World} (hp : p.Fits) (hs : ∀ s ∈ steps, s.Fits) (ho : Reads w Enc.op3 o p.ops) (hr : Reads w Enc.stepE (i, n, c) steps) :
  Aa Tryz.prog 16 [Jc p o, .slice i n c] w (Rets fun v w' => v = Gx (Be p steps) ∧ Grew w w') := by
 refine sx16.ok ?_
 unfold sx16
 have hn : n = steps.length := hr.2.1
 subst hn
 obtain ⟨oa, on, oc⟩ := o
 have hon : on = p.ops.length := ho.2.1
 subst hon
 simp only at *
 intro w1 hg1
 refine ⟨fun hgt => ?_, fun hle => ?_⟩
 ·simp only [decide_eq_true_eq] at hgt
  have : Be p steps = .error 212 := by unfold Be; rw [if_pos (by omega)]
  rw [this]; exact ⟨_, rfl, rfl, hg1⟩
 simp only [decide_eq_false_iff_not] at hle
 intro b2 w3 hal
 have hg3 := hg1.trans hal.grew
 have hb0 : Buf w3 w.heap.size (some ⟨b2, 0, none⟩) 0 0 [] := (Own.alloc (l := []) hal (Nat.le_refl _) rfl (by simp [maxLen])).base hg1.size
 refine Ea (s := Bu) hb0 hg3 (by decide) fun a6 l6 c6 w4 hb4 hg4 _ => ⟨_, _, _, rfl, fun b7 w8 hal7 => ?_⟩
 obtain ⟨cs', h3, h4, h5, h6⟩ := Cy (vs := (A1 p).map (Value.int .i64)) (o := 0) (i := 0) hal7.at_
 refine ⟨C7 hal7.at_ (by simp), ?_⟩
 rintro w9 rfl
 have hg9 : Grew w (setCells w8 ⟨b7, 0, none⟩ 0 ((A1 p).map (Value.int .i64))) := (hg4.trans hal7.grew).then_own h6 fun b hb => by subst hb; exact Nat.le_trans hg4.size hal7.new
 have hrow : Row (setCells w8 ⟨b7, 0, none⟩ 0 ((A1 p).map (Value.int .i64))) b7 87 cs'.toList := by unfold Row; rw [Array.toArray_toList]; exact h3
 have hcs : ∀ j, j < 7 → cs'.toList[j]? = ((A1 p).map (Value.int .i64))[j]? := fun j hj => by
  rw [Array.getElem?_toList, h5, if_pos ⟨by omega, by simp [A1]; omega, by simp; omega⟩]; simp
 have hb9 : Buf (setCells w8 ⟨b7, 0, none⟩ 0 ((A1 p).map (Value.int .i64))) w.heap.size a6 l6 c6 Bu := (hb4.grew hal7.grew).upd h6 fun b hb e => by
  have := (hb4.blk hb).2; have := hal7.new; omega
 have l7 : (A1 p).length = 7 := rfl
 have hpw : Bu.length = 4 := rfl
 refine ⟨fun a n c k w' => ∃ j : Nat, k = j ∧ j ≤ 7 ∧ Buf w' w.heap.size a n c (Bu ++ Cs ((A1 p).take j)) ∧ Row w' b7 87 cs'.toList ∧ Grew w w', fun _ _ _ k _ => 7 - k.toNat,
  ⟨0, rfl, by omega, by rw [List.take_zero]; show Buf _ _ _ _ _ (Bu ++ []); rw [List.append_nil]; exact hb9, hrow, hg9⟩, ?_⟩
 rintro a11 l11 c11 k w13 ⟨j, rfl, hj, hb, hrow, hg13⟩
 have hlt1 := Gy (l := (A1 p).take j) fun m hm => hp.nums m (List.mem_of_mem_take hm)
 have htl : ((A1 p).take j).length ≤ 7 := by rw [List.length_take, l7]; omega
 have hlen : (Bu ++ Cs ((A1 p).take j)).length ≤ 200 := by simp only [List.length_append]; omega
 refine ⟨fun hlt b14 w15 hal14 => ?_, fun hge b27 w28 hal27 => ?_⟩
 ·simp only [decide_eq_true_eq] at hlt
  have hj7 : j < 7 := by omega
  have hjn : j < (A1 p).length := by rw [l7]; exact hj7
  have hnf := hp.nums (A1 p)[j] (List.getElem_mem hjn)
  refine Dz (ch := 32) hb hal14 rfl hg13 (by omega) fun a18 l18 c18 w16 hb16 hg16 hu16 => ⟨_, _, _, rfl, ⟨by omega, by omega⟩, (A1 p)[j], ?_, ?_⟩
  all_goals have hrow16 : Row w16 b7 87 cs'.toList := hrow.upd hu16 fun hk => As hb hrow (by decide) hk
  ·rw [Bi, Int.toNat_natCast, Nat.mul_one, Nat.zero_add, hrow16.cell, hcs j hj7, List.getElem?_map, List.getElem?_eq_getElem hjn]; rfl
  refine (Cn hnf).use fun v w20 ⟨hv, hg20⟩ => ?_
  subst hv
  have hil := Bf hnf
  refine ⟨_, rfl, Ea (hb16.grew hg20) (hg16.trans hg20) (by simp only [List.length_append, List.length_singleton] at hlen ⊢; omega) fun a26 l26 c26 w24 hb24 hg24 hu24 => ⟨_, _, _, rfl, ?_⟩⟩
  rw [Ch (by omega)]
  have hsn : Bu ++ Cs ((A1 p).take (j + 1)) = Bu ++ Cs ((A1 p).take j) ++ [32] ++ Lib.itoa (A1 p)[j] := by
   rw [List.take_succ_eq_append_getElem hjn]
   simp only [Cs, List.map_append, List.map_cons, List.map_nil, List.flatten_append, List.flatten_cons, List.flatten_nil, List.append_nil, List.append_assoc, List.singleton_append]
  refine ⟨⟨j + 1, rfl, by omega, by rw [hsn]; exact hb24, (hrow16.grew hg20).upd hu24 fun hk => As (hb16.grew hg20) (hrow16.grew hg20) (by decide) hk, hg24⟩, ?_⟩
  show 7 - (((j + 1 : Nat) : Int)).toNat < 7 - ((j : Nat) : Int).toNat; omega
 simp only [decide_eq_false_iff_not] at hge
 have : j = 7 := by omega
 subst this
 have hhead : Bu ++ Cs ((A1 p).take 7) ++ [10] = Bv p := by unfold Bv; simp [A1, Cs]
 have hhl : (Bv p).length ≤ 201 := by rw [← hhead, List.length_append, List.length_singleton]; omega
 refine Dz (ch := 10) hb hal27 rfl hg13 (by omega) fun a31 l31 c31 w29 hb29 hg29 _ => ⟨_, _, _, rfl, ?_⟩
 rw [hhead] at hb29
 clear hrow hcs hb9 hg9 h3 h4 h5 h6
 refine ⟨fun a n c w' => ∃ T : L8, Buf w' w.heap.size a n c T ∧ Grew w w' ∧ T.length ≤ 300000 ∧ (T = Bv p ++ opsT p.ops ∨ 262144 < T.length ∧ T.length ≤ (Bv p ++ opsT p.ops).length), ?_, ?_⟩
 ·refine ⟨fun a n c k w' => ∃ j : Nat, k = j ∧ j ≤ p.ops.length ∧ Buf w' w.heap.size a n c (Bv p ++ opsT (p.ops.take j)) ∧ (Bv p ++ opsT (p.ops.take j)).length ≤ 262300 ∧ Grew w w', fun _ _ _ k _ => p.ops.length - k.toNat,
   ⟨0, rfl, Nat.zero_le _, by simpa [opsT] using hb29, by simp only [List.take_zero, opsT, List.map_nil, List.flatten_nil, List.append_nil]; omega, hg29⟩, ?_⟩
  rintro a34 l34 c34 k w36 ⟨j, rfl, hj, hb3, hl3, hg36⟩
  have hbl : l34 = (Bv p ++ opsT (p.ops.take j)).length := by have := hb3.len; simpa using this
  have htake := Jb p.ops j
  refine ⟨fun hlt => ⟨fun hsm => ?_, fun hbig => ⟨_, hb3, hg36, by omega, .inr ⟨?_, ?_⟩⟩⟩, fun hge => ⟨_, hb3, hg36, by omega, .inl ?_⟩⟩
  ·simp only [decide_eq_true_eq] at hlt hsm
   have hjl : j < p.ops.length := by omega
   obtain ⟨d, y, hd, hy, hc⟩ := ho.at0 (k := j) hjl
   subst hd
   have hym : y ∈ p.ops := List.mem_of_getElem? hy
   obtain ⟨f1, f2, f3⟩ := hp.ops y hym
   have i1 := Bf f1
   have i2 := Bf f2
   obtain ⟨c1, c2, c3, -⟩ := hc
   have k1 : w.cell? (Addr.add d (((j : Nat) : Int).toNat * 3)) = some (.int .i64 y.kind) := c1
   have k2 : w.cell? (Addr.add (Addr.add d (((j : Nat) : Int).toNat * 3)) 1) = some (.int .i64 y.n) := c2
   have k3 : w.cell? (Addr.add (Addr.add d (((j : Nat) : Int).toNat * 3)) 2) = some (.float .f64 y.x) := c3
   have hsn : p.ops.take (j + 1) = p.ops.take j ++ [y] := by
    have e : p.ops[j] = y := by rw [List.getElem?_eq_getElem hjl] at hy; exact Option.some.inj hy
    rw [List.take_succ_eq_append_getElem hjl, e]
   simp only [Ad]
   have hsm : (Bv p ++ opsT (p.ops.take j)).length ≤ 262144 := by omega
   refine Ea (s := [111, 112, 32]) hb3 hg36 (by simp only [List.length_cons, List.length_nil]; omega) fun a39 l39 c39 w37 hb37 hg37 _ => ⟨_, _, _, rfl, ⟨by omega, by omega⟩, _, hg37.cell k1, (Cn f1).use fun v w42 ⟨hv, hg42⟩ => ?_⟩
   subst hv
   refine ⟨_, rfl, Ea (hb37.grew hg42) (hg37.trans hg42) (by simp only [List.length_append, List.length_cons, List.length_nil] at hsm ⊢; omega) fun a48 l48 c48 w46 hb46 hg46 _ => ⟨_, _, _, rfl, fun b49 w50 hal49 => ?_⟩⟩
   refine Dz (ch := 32) hb46 hal49 rfl hg46 (by simp only [List.length_append, List.length_cons, List.length_nil] at hsm ⊢; omega) fun a53 l53 c53 w51 hb51 hg51 _ => ⟨_, _, _, rfl, ⟨by omega, by omega⟩, _, hg51.cell k2, (Cn f2).use fun v w56 ⟨hv, hg56⟩ => ?_⟩
   subst hv
   refine ⟨_, rfl, Ea (hb51.grew hg56) (hg51.trans hg56) (by simp only [List.length_append, List.length_cons, List.length_nil] at hsm ⊢; omega) fun a62 l62 c62 w60 hb60 hg60 _ => ⟨_, _, _, rfl, fun b63 w64 hal63 => ?_⟩⟩
   refine Dz (ch := 32) hb60 hal63 rfl hg60 (by simp only [List.length_append, List.length_cons, List.length_nil] at hsm ⊢; omega) fun a67 l67 c67 w65 hb65 hg65 _ => ⟨_, _, _, rfl, ⟨by omega, by omega⟩, _, hg65.cell k3, (Ma f3).use fun v w70 ⟨hv, hw70⟩ => ?_⟩
   subst hv
   rw [hw70]
   refine ⟨_, rfl, Ea hb65 hg65 (by simp only [List.length_append, List.length_cons, List.length_nil, B3] at hsm ⊢; omega) fun a76 l76 c76 w74 hb74 hg74 _ => ⟨_, _, _, rfl, fun b77 w78 hal77 => ?_⟩⟩
   refine Dz (ch := 10) hb74 hal77 rfl hg74 (by simp only [List.length_append, List.length_cons, List.length_nil, B3] at hsm ⊢; omega) fun a81 l81 c81 w79 hb79 hg79 _ => ⟨_, _, _, rfl, ?_⟩
   have htx : Bv p ++ opsT (p.ops.take j) ++ [111, 112, 32] ++ Lib.itoa y.kind ++ [32] ++ Lib.itoa y.n ++ [32] ++ hexK 16 y.x ++ [10] = Bv p ++ opsT (p.ops.take (j + 1)) := by
    rw [hsn, Fb]; simp [opT, opW]
   rw [htx] at hb79
   have hjt := Jw (p.ops.take j)
   rw [List.length_take] at hjt
   have hsm2 := hsm
   simp only [List.length_append] at hsm2
   rw [Ch (by omega)]
   have hol := L6 ⟨f1, f2, f3⟩
   refine ⟨⟨j + 1, rfl, hjl, hb79, ?_, hg79⟩, ?_⟩
   ·rw [hsn, Fb]
    simp only [List.length_append] at hol ⊢; omega
   ·show p.ops.length - (((j + 1 : Nat) : Int)).toNat < p.ops.length - ((j : Nat) : Int).toNat; omega
  ·simp only [decide_eq_false_iff_not] at hbig; omega
  ·simp only [List.length_append]; omega
  ·simp only [decide_eq_false_iff_not] at hge
   have : j = p.ops.length := by omega
   subst this
   rw [List.take_length]
 rintro a82 l82 c82 w83 ⟨T, hbT, hg83, hTl, hT⟩
 have hP : ∀ t, A5 steps = .ok t → Be p steps = if 262144 < (T ++ t).length then .error 6 else .ok (T ++ t) := fun t ht => by
  unfold Be; rw [if_neg (by omega), ht]
  simp only
  rw [← List.append_assoc]
  rcases hT with rfl | ⟨h1, h2⟩
  ·rfl
  ·have e1 : 262144 < (Bv p ++ opsT p.ops ++ t).length := by rw [List.length_append]; omega
   have e2 : 262144 < (T ++ t).length := by rw [List.length_append]; omega
   rw [if_pos e1, if_pos e2]
 have hPe : ∀ e, A5 steps = .error e → Be p steps = .error e := fun e he => by
  unfold Be; rw [if_neg (by omega), he]
 refine ⟨fun a n c k w' => ∃ (j : Nat) (t : L8), k = j ∧ j ≤ steps.length ∧ A5 (steps.take j) = .ok t ∧ t.length ≤ 71 * j ∧ Buf w' w.heap.size a n c (T ++ t) ∧ Grew w w', fun _ _ _ k _ => steps.length - k.toNat,
  ⟨0, [], rfl, Nat.zero_le _, rfl, Nat.zero_le _, by rw [List.append_nil]; exact hbT, hg83⟩, ?_⟩
 rintro a85 l85 c85 k w87 ⟨j, t, rfl, hj, ht, htl2, hb5, hg87⟩
 have hbl : l85 = (T ++ t).length := by have := hb5.len; simpa using this
 refine ⟨fun hlt => ?_, fun hge => ⟨fun hgt => ?_, fun hle2 => ?_⟩⟩
 ·simp only [decide_eq_true_eq] at hlt
  have hjl : j < steps.length := by omega
  obtain ⟨d, y, hd, hy, hc⟩ := (hr.grew hg87).at0 (k := j) hjl
  have hym : y ∈ steps := List.mem_of_getElem? hy
  have e : steps[j] = y := by rw [List.getElem?_eq_getElem hjl] at hy; exact Option.some.inj hy
  have hsp : steps = steps.take j ++ y :: steps.drop (j + 1) := by rw [← e, ← List.drop_eq_getElem_cons hjl, List.take_append_drop]
  have hsn : steps.take (j + 1) = steps.take j ++ [y] := by rw [List.take_succ_eq_append_getElem hjl, e]
  rw [hd, Ad, Int.toNat_natCast]
  refine ⟨⟨by omega, by omega⟩, _, _, _, _, _, hc, (Od (s := y) (hs y hym)).use fun v w94 ⟨hv, hg94⟩ => ?_⟩
  subst hv
  cases hst : Go.Sx.stepT y with
  | error e =>
   have he : A5 steps = .error e := by rw [hsp]; exact Ik ht hst
   refine ⟨_, _, rfl, fun _ => ⟨_, rfl, by rw [hPe _ he]; rfl, hg87.trans hg94⟩, fun h0 => ?_⟩
   exfalso
   have hc0 : e = 0 := by simpa using h0
   subst hc0
   unfold Go.Sx.stepT at hst
   split at hst
   ·cases hst
   ·split at hst <;> cases hst
  | ok l =>
   have hal := Ja (hs y hym) hst
   refine ⟨_, _, rfl, fun h => (by cases h), fun _ => Ea (hb5.grew hg94) (hg87.trans hg94) (by simp only [List.length_append]; omega) fun a' n' c' w99 hb99 hg99 _ => ⟨_, _, _, rfl, fun b77 w78 hal77 => ?_⟩⟩
   refine Dz (ch := 10) hb99 hal77 rfl hg99 (by simp only [List.length_append]; omega) fun a81 l81 c81 w79 hb79 hg79 _ => ⟨_, _, _, rfl, ?_⟩
   rw [Ch (by omega)]
   have hass : T ++ t ++ l ++ [10] = T ++ (t ++ (l ++ [10])) := by simp
   rw [hass] at hb79
   refine ⟨⟨j + 1, t ++ (l ++ [10]), rfl, hjl, by rw [hsn]; exact Ha ht hst, by simp only [List.length_append, List.length_singleton]; omega, hb79, hg79⟩, ?_⟩
   show steps.length - (((j + 1 : Nat) : Int)).toNat < steps.length - ((j : Nat) : Int).toNat; omega
 all_goals
  simp only [decide_eq_false_iff_not] at hge
  have : j = steps.length := by omega
  subst this
  rw [List.take_length] at ht
 ·simp only [decide_eq_true_eq] at hgt
  exact ⟨_, rfl, by rw [hP t ht, if_pos (by omega)]; rfl, hg87⟩
 ·simp only [decide_eq_false_iff_not] at hle2
  refine H4 uBy uU8 uSt hb5.reads ⟨_, rfl, _, rfl, ?_, hg87⟩
  rw [hP t ht, if_neg (by omega), Gt]; rfl
end Go.Proofs.YtbmmaibbiahkkaaGreatDoor
