/- ScriptSkips: what it computes. Conditions: none. -/
import Derived.Test.YtbmmaibbiahkkaaGreatDoorProg
import Derived.Test.YtbmmaibbiahkkaaGreatDoorScrN
import Derived.Test.YtbmmaibbiahkkaaGreatDoorScrGl
import Derived.Test.YtbmmaibbiahkkaaGreatDoorKindsP
import Derived.Test.YtbmmaibbiahkkaaGreatDoorRows
import Derived.Test.YtbmmaibbiahkkaaGreatDoorTie
import Derived.Test.YtbmmaibbiahkkaaGreatDoorCards
import Derived.SevenTiedAt
import Derived.Stop.Joined
namespace Go.Proofs.YtbmmaibbiahkkaaGreatDoor
open Go.Sx
set_option maxRecDepth 100000
set_option linter.unusedVariables false
set_option linter.unusedSimpArgs false
def sx7 (d_0 d_1 d_2 : Int) (d_3 : Option Addr) (d_3_n d_3_c : Nat) (d_4 d_5 d_6 d_7 : Int) (i : Option Addr) (i_n i_c : Nat) (p2 : ByteArray) (R : Ending → World → Prop) (w : World) : Prop :=
  ∀ w1, Grew w w1 → Aa Tryz.prog 10 [] w1 (RetR R fun u3 w2 => ∃ b4, u3 = .bool b4 ∧ ifB (!b4) (R (.returned (.bool false)) w2) (ifB (decide (((i_n : Nat) : Int) > 300)) (R (.returned (.bool true)) w2) (ifB (decide (((ByteArray.size p2 : Nat) : Int) > 100)) (R (.returned (.bool true)) w2) (ifB (decide (((d_3_n : Nat) : Int) > 50)) (R (.returned (.bool true)) w2) (∃ (I6 : Int → World → Prop) (m6 : Int → World → Nat), I6 0 w2 ∧ ∀ n7 w8, I6 n7 w8 → ifB (decide (n7 < ((ByteArray.size p2 : Nat) : Int))) (∃ (b9 : UInt8), (0 ≤ n7 ∧ (p2).data[n7.toNat]? = some b9) ∧ ifB ((b9.toNat : Int) == 10) (R (.returned (.bool true)) w8) ((I6 (IntKind.i64.wrap (n7 + 1)) w8 ∧ m6 (IntKind.i64.wrap (n7 + 1)) w8 < m6 n7 w8))) (Aa Tryz.prog 15 [.agg #[.int .i64 d_0, .int .i64 d_1, .int .i64 d_2, .slice d_3 d_3_n d_3_c, .int .i64 d_4, .int .i64 d_5, .int .i64 d_6, .int .i64 d_7], .slice i i_n i_c] w8 (RetR R fun u11 w10 => ∃ s12 n13, u11 = .tuple #[.string s12, .int .i64 n13] ∧ ifB (n13 != 0) (R (.returned (.bool true)) w10) (∀ b15 w16, Ar w10 w16 b15 (.cells #[.int .u8 35] 5) → SemW Tryz.prog (Builtin.append_ #[39, 39] 39 #[.slice none 0 0, .slice (some ⟨b15, 0, none⟩) 1 1]) (fun u18 w17 => ∃ a19 l19 c19, u18 = .slice a19 l19 c19 ∧ SemW Tryz.prog (Builtin.append_ #[39, 9] 39 #[.slice a19 l19 c19, .string p2]) (fun u21 w20 => ∃ a22 l22 c22, u21 = .slice a22 l22 c22 ∧ ∀ b23 w24, Ar w20 w24 b23 (.cells #[.int .u8 10] 5) → SemW Tryz.prog (Builtin.append_ #[39, 39] 39 #[.slice a22 l22 c22, .slice (some ⟨b23, 0, none⟩) 1 1]) (fun u26 w25 => ∃ a27 l27 c27, u26 = .slice a27 l27 c27 ∧ ∃ (I28 : Option Addr → Nat → Nat → Int → Int → World → Prop) (m28 : Option Addr → Nat → Nat → Int → Int → World → Nat), I28 a27 l27 c27 1 0 w25 ∧ ∀ a29 l29 c29 n30 n31 w32, I28 a29 l29 c29 n30 n31 w32 → ifB (decide (n31 < ((ByteArray.size s12 : Nat) : Int))) (∃ (b33 : UInt8), (0 ≤ n31 ∧ (s12).data[n31.toNat]? = some b33) ∧ ∀ b34 w35, Ar w32 w35 b34 (.cells #[.int .u8 (b33.toNat : Int)] 5) → SemW Tryz.prog (Builtin.append_ #[39, 39] 39 #[.slice a29 l29 c29, .slice (some ⟨b34, 0, none⟩) 1 1]) (fun u37 w36 => ∃ a38 l38 c38, u37 = .slice a38 l38 c38 ∧ ∃ (b39 : UInt8), (0 ≤ n31 ∧ (s12).data[n31.toNat]? = some b39) ∧ ifB ((b39.toNat : Int) == 10) (SemW Tryz.prog (Builtin.append_ #[39, 9] 39 #[.slice a38 l38 c38, .string (ByteArray.mk (#[10, 35]) : ByteArray)]) (fun u41 w40 => ∃ a42 l42 c42, u41 = .slice a42 l42 c42 ∧ SemW Tryz.prog (Builtin.append_ #[39, 9] 39 #[.slice a42 l42 c42, .string p2]) (fun u44 w43 => ∃ a45 l45 c45, u44 = .slice a45 l45 c45 ∧ ∀ b46 w47, Ar w43 w47 b46 (.cells #[.int .u8 10] 5) → SemW Tryz.prog (Builtin.append_ #[39, 39] 39 #[.slice a45 l45 c45, .slice (some ⟨b46, 0, none⟩) 1 1]) (fun u49 w48 => ∃ a50 l50 c50, u49 = .slice a50 l50 c50 ∧ (I28 a50 l50 c50 (IntKind.i64.wrap (n30 + 3)) (IntKind.i64.wrap (n31 + 1)) w48 ∧ m28 a50 l50 c50 (IntKind.i64.wrap (n30 + 3)) (IntKind.i64.wrap (n31 + 1)) w48 < m28 a29 l29 c29 n30 n31 w32)) w47) w40) w36) ((I28 a38 l38 c38 n30
 (IntKind.i64.wrap (n31 + 1)) w36 ∧ m28 a38 l38 c38 n30 (IntKind.i64.wrap (n31 + 1)) w36 < m28 a29 l29 c29 n30 n31 w32))) w35) (SemW Tryz.prog (convert 39 9 (.slice a29 l29 c29)) (fun u52 w51 => ∃ s53, u52 = .string s53 ∧ Aa Tryz.prog 11 [.string s53] w51 (RetR R fun u55 w54 => ∃ n56 n57 n58 a59 l59 c59 n60 n61 n62 n63 a64 l64 c64 n65 n66, u55 = .tuple #[.agg #[.int .i64 n56, .int .i64 n57, .int .i64 n58, .slice a59 l59 c59, .int .i64 n60, .int .i64 n61, .int .i64 n62, .int .i64 n63], .slice a64 l64 c64, .int .i64 n65, .int .i64 n66] ∧ ∀ w68, Grew w54 w68 → ifB (n66 != 0) (R (.returned (.bool false)) w68) (ifB (n65 != 0) (R (.returned (.bool false)) w68) (Aa Tryz.prog 13 [.agg #[.int .i64 d_0, .int .i64 d_1, .int .i64 d_2, .slice d_3 d_3_n d_3_c, .int .i64 d_4, .int .i64 d_5, .int .i64 d_6, .int .i64 d_7], .agg #[.int .i64 n56, .int .i64 n57, .int .i64 n58, .slice a59 l59 c59, .int .i64 n60, .int .i64 n61, .int .i64 n62, .int .i64 n63]] w68 (RetR R fun u70 w69 => ∃ b71, u70 = .bool b71 ∧ ifB (!b71) (R (.returned (.bool false)) w69) (Aa Tryz.prog 14 [.slice a64 l64 c64, .slice i i_n i_c] w69 (RetR R fun u74 w73 => ∃ b75, u74 = .bool b75 ∧ ifB (!b75) (R (.returned (.bool false)) w73) (SemW Tryz.prog (convert 39 9 (.slice a29 l29 c29)) (fun u78 w77 => ∃ s79, u78 = .string s79 ∧ ∃ s80, Ao Tryz.prog (eqS .add 9 (.tmp 113) (.const (.string (ByteArray.mk (#[116, 105, 99, 107, 32, 116, 111, 99, 107, 10, 116, 105, 99, 107]) : ByteArray))) (.string s79) (.string (ByteArray.mk (#[116, 105, 99, 107, 32, 116, 111, 99, 107, 10, 116, 105, 99, 107]) : ByteArray))) (.string s80) ∧ Aa Tryz.prog 11 [.string s80] w77 (RetR R fun u82 w81 => ∃ n83 n84 n85 a86 l86 c86 n87 n88 n89 n90 a91 l91 c91 n92 n93, u82 = .tuple #[.agg #[.int .i64 n83, .int .i64 n84, .int .i64 n85, .slice a86 l86 c86, .int .i64 n87, .int .i64 n88, .int .i64 n89, .int .i64 n90], .slice a91 l91 c91, .int .i64 n92, .int .i64 n93] ∧ ifB (n93 != 211) (R (.returned (.bool false)) w81) (ifB (n92 != IntKind.i64.wrap (n30 + 1)) (R (.returned (.bool false)) w81) (ifB (((l91 : Nat) : Int) != 0) (R (.returned (.bool false)) w81) (Aa Tryz.prog 13 [.agg #[.int .i64 n83, .int .i64 n84, .int .i64 n85, .slice a86 l86 c86, .int .i64 n87, .int .i64 n88, .int .i64 n89, .int .i64 n90], .agg #[.int .i64 0, .int .i64 0, .int .i64 0, .slice none 0 0, .int .i64 0, .int .i64 0, .int .i64 0, .int .i64 0]] w81 (RetR R fun u96 w95 => ∃ b97, u96 = .bool b97 ∧ ifB (!b97) (R (.returned (.bool false)) w95) (SemW Tryz.prog (convert 39 9 (.slice a29 l29 c29)) (fun u100 w99 => ∃ s101, u100 = .string s101 ∧ ∃ s102, Ao Tryz.prog (eqS .add 9 (.tmp 141) (.const (.string (ByteArray.mk (#[112, 108, 97, 110]) : ByteArray))) (.string s101) (.string (ByteArray.mk (#[112, 108, 97, 110]) : ByteArray))) (.string s102) ∧ Aa Tryz.prog 11 [.string s102] w99 (RetR R fun u104 w103 => ∃ n105 n106 n107 a108 l108 c108 n109 n110 n111 n112 a113 l113 c113 n114 n115, u104 = .tuple #[.agg #[.int .i64 n105, .int .i64 n106, .int .i64 n107,
 .slice a108 l108 c108, .int .i64 n109, .int .i64 n110, .int .i64 n111, .int .i64 n112], .slice a113 l113 c113, .int .i64 n114, .int .i64 n115] ∧ ifB (n115 == 210) (R (.returned (.bool (n114 == IntKind.i64.wrap (n30 + 1)))) w103) (R (.returned (.bool false)) w103))) w95))))))) w73)))))))) w32)) w24) w17) w16))))))))
theorem sx7.ok {d_0 d_1 d_2 : Int} {d_3 : Option Addr} {d_3_n d_3_c : Nat} {d_4 d_5 d_6 d_7 : Int} {i : Option Addr} {i_n i_c : Nat} {p2 : ByteArray} {R : Ending → World → Prop} {w : World} (h : sx7 d_0 d_1 d_2 d_3 d_3_n d_3_c d_4 d_5 d_6 d_7 i i_n i_c p2 R w) : Aa Tryz.prog 7 [.agg #[.int .i64 d_0, .int .i64 d_1, .int .i64 d_2, .slice d_3 d_3_n d_3_c, .int .i64 d_4, .int .i64 d_5, .int .i64 d_6, .int .i64 d_7], .slice i i_n i_c, .string p2] w R :=
 okOf { locals := [3, 13], pureTo := [114, 142], sem := [52, 55, 58, 70, 76, 79, 82, 87, 113, 141], loops := [(6, { slots := [(7, .int .i64)], cells := [] }), (19, { slots := [(10, .slice), (11, .int .i64), (12, .int .i64)], cells := [] })] } mix Tryz.func7 (by kernel_rfl) (by kernel_rfl) (by kernel_rfl) h
def Bq (note : L8) (t : L8) : L8 := (t.map fun c => if c = 10 then 10 :: 10 :: 35 :: (note ++ [10]) else [c]).flatten
theorem Eh (note a b : L8) : Bq note (a ++ b) = Bq note a ++ Bq note b := by simp [Bq]
theorem Fb {note : L8} : ∀ {a : L8}, (10 : UInt8) ∉ a → Bq note a = a
 | [], _ => rfl
 | c :: a, h => by
  simp only [List.mem_cons, not_or] at h
  have := Fb (note := note) h.2
  simp only [Bq, List.map_cons, List.flatten_cons] at this ⊢
  rw [if_neg (fun e => h.1 e.symm), this]; rfl
theorem Gw {note : L8} : ∀ {ls : List L8}, (∀ l ∈ ls, (10 : UInt8) ∉ l) → Bq note (Ae ls) = Ae (ls.map fun l => [l, [], 35 :: note]).flatten
 | [], _ => rfl
 | l :: r, h => by
  have ih := Gw (note := note) (ls := r) fun x hx => h x (by simp [hx])
  have e : Ae (l :: r) = l ++ ([10] ++ Ae r) := by rw [A9]; simp
  rw [e, Eh, Eh, Fb (h l (by simp)), ih]
  simp [Bq, Ae]
theorem Hn : ∀ {ls : List L8}, (∀ l ∈ ls, (10 : UInt8) ∉ l) → (Ae ls).count 10 = ls.length
 | [], _ => rfl
 | l :: r, h => by
  rw [A9, List.count_append, List.count_cons, Hn fun x hx => h x (by simp [hx]), List.count_eq_zero.2 (h l (by simp))]
  simp
theorem Ja (note : L8) : ∀ ls : List L8, (Ae (ls.map fun l => [l, [], 35 :: note]).flatten).length = (Ae ls).length + ls.length * (note.length + 3)
 | [] => by simp [Ae]
 | l :: r => by
  have ih := Ja note r
  simp only [List.map_cons, List.flatten_cons, Hk, List.length_append, A9, List.length_cons, ih, Nat.add_mul]
  simp [Ae]; omega
theorem Jb (note : L8) : ∀ t : L8, (Bq note t).length ≤ t.length * (note.length + 4)
 | [] => by simp [Bq]
 | c :: t => by
  have ih := Jb note t
  simp only [Bq, List.map_cons, List.flatten_cons, List.length_append, List.length_cons, Nat.add_mul] at ih ⊢
  have : (if c = 10 then 10 :: 10 :: 35 :: (note ++ [10]) else [c]).length ≤ note.length + 4 := by split <;> simp
  omega
theorem N1 {p : ScrP} {steps : List Ah} {t : L8} (hp : p.Fits) (hs : ∀ s ∈ steps, s.Fits) (h : By p steps = .ok t) (ho : p.ops.length ≤ 50) (hn : steps.length ≤ 300) : t.length ≤ 30000 := by
 have hst : ∀ (l : List Ah) (u : L8), (∀ s ∈ l, s.Fits) → A2 l = .ok u → u.length ≤ 71 * l.length := by
  intro l
  induction l with
  | nil => intro u _ h; cases h; simp
  | cons s r ih =>
   intro u hf h
   simp only [A2] at h
   split at h
   ·cases h
   ·rename_i a ha
    split at h
    ·cases h
    ·rename_i b hb
     cases h
     have h1 := J2 (hf s (by simp)) ha
     have h2 := ih b (fun x hx => hf x (by simp [hx])) hb
     simp only [List.length_append, List.length_cons]; omega
 have hop : ∀ l : List OpV, (∀ o ∈ l, o.Fits) → (opsT l).length ≤ 65 * l.length := by
  intro l
  induction l with
  | nil => intro _; simp [opsT]
  | cons o r ih =>
   intro hf
   have h1 := M5 (hf o (by simp))
   have h2 := ih fun x hx => hf x (by simp [hx])
   simp only [opsT, List.map_cons, List.flatten_cons, List.length_append, List.length_cons] at h1 h2 ⊢; omega
 have hhd : (C8 p).length ≤ 152 := by
  have := G9 (l := [p.n0, p.n1, p.n2, p.n3, p.n4, p.n5, p.n6]) hp.nums
  unfold C8
  have e : Ck.length = 4 := rfl
  unfold Fv at this
  simp only [List.length_append, List.length_cons, List.length_nil] at this ⊢
  omega
 unfold By at h
 split at h
 ·cases h
 ·split at h
  ·cases h
  ·rename_i u hu
   split at h
   ·cases h
   ·cases h
    have h1 := hst steps u hs hu
    have h2 := hop p.ops hp.ops
    simp only [List.length_append]; omega
theorem Ps : Di [[116, 105, 99, 107], [116, 111, 99, 107]] = .error 211 := by kernel_rfl
theorem Pt : Di [[112, 108, 97, 110]] = .error 210 := by kernel_rfl
theorem Jc {p : ScrP} {steps : List Ah} {o : Sl3} {a : Option Addr} {n c : Nat} {note : L8} {w : World} (hG : Glob w) (hP : Mp w p o) (hr : Reads w Enc.stepE (a, n, c) steps) (hs : ∀ s ∈ steps, s.Fits) (hnl : steps.length ≤ maxLen) (hb : steps.length * 40 ≤ 140737488351232) :
  Aa Tryz.prog 7 [I5 p o, .slice a n c, .string (bs note)] w (Rets fun v w' => v = .bool true ∧ Grew w w') := by
 obtain ⟨hp, ho, hpl, -⟩ := hP
 refine sx7.ok ?_
 unfold sx7
 have hn : n = steps.length := hr.2.1
 subst hn
 obtain ⟨oa, on, oc⟩ := o
 have hon : on = p.ops.length := ho.2.1
 subst hon
 rw [Ay]
 intro w1 hg1
 refine (Pn (hG.grew hg1)).use fun v w2 ⟨hv, hg2⟩ => ?_
 subst hv
 have hg12 := hg1.trans hg2
 refine ⟨_, rfl, fun h => (by cases h), fun _ => ⟨fun _ => ⟨_, rfl, rfl, hg12⟩, fun h300 => ⟨fun _ => ⟨_, rfl, rfl, hg12⟩, fun h100 => ⟨fun _ => ⟨_, rfl, rfl, hg12⟩, fun h50 => ?_⟩⟩⟩⟩
 simp only [gt_iff_lt, decide_eq_false_iff_not] at h300 h100 h50
 refine ⟨fun n w' => ∃ j : Nat, n = j ∧ j ≤ note.length ∧ (10 : UInt8) ∉ note.take j ∧ Grew w w', fun n _ => note.length - n.toNat, ⟨0, rfl, Nat.zero_le _, by simp, hg12⟩, ?_⟩
 rintro n7 w8 ⟨j, rfl, hj, h10, hg8⟩
 refine ⟨fun hlt => ?_, fun hge => ?_⟩
 ·simp only [decide_eq_true_eq] at hlt
  have hjl : j < note.length := by omega
  refine ⟨note[j], ⟨by omega, by rw [Ke, Int.toNat_natCast, List.getElem?_eq_getElem hjl]⟩, fun _ => ⟨_, rfl, rfl, hg8⟩, fun hne => ?_⟩
  have hx : note[j] ≠ 10 := fun e => by rw [e] at hne; revert hne; decide
  rw [Cf (by omega)]
  refine ⟨⟨j + 1, rfl, hjl, ?_, hg8⟩, ?_⟩
  ·rw [List.take_succ_eq_append_getElem hjl]
   simp only [List.mem_append, List.mem_singleton, not_or]
   exact ⟨h10, fun e => hx e.symm⟩
  ·show note.length - (((j + 1 : Nat) : Int)).toNat < note.length - ((j : Nat) : Int).toNat; omega
 simp only [decide_eq_false_iff_not] at hge
 have : j = note.length := by omega
 subst this
 rw [List.take_length] at h10
 refine (Lr (hG.grew hg8) hp hs (ho.grew hg8) (hr.grew hg8)).use fun v w10 ⟨hv, hg10⟩ => ?_
 have hgA := hg8.trans hg10
 cases hpr : By p steps with
 | error e =>
  rw [hpr] at hv
  subst hv
  have he := Ny hpr
  refine ⟨_, _, rfl, fun _ => ⟨_, rfl, rfl, hgA⟩, fun h => ?_⟩
  have : e = 0 := by simpa using h
  omega
 | ok t =>
  rw [hpr] at hv
  subst hv
  obtain ⟨ls, rfl, hls, hne, hgo, hlen, htl, h4096⟩ := Le hp hs hpr
  have hl10 : ∀ l ∈ ls, (10 : UInt8) ∉ l := fun l hl => (hls l hl).1
  have htl2 := N1 hp hs hpr (by omega) (by omega)
  refine ⟨_, _, rfl, fun h => (by cases h), fun _ b15 w16 hal15 => ?_⟩
  refine Gv (w0 := w) (ch := 35) (t := []) (Own.nil _ _ _ _) hal15 rfl hgA (by simp) fun a19 n19 c19 w17 hb17 hg17 _ => ⟨_, _, _, rfl, ?_⟩
  refine Kr hb17 hg17 (by simp; omega) fun a22 n22 c22 w20 hb20 hg20 _ => ⟨_, _, _, rfl, fun b23 w24 hal23 => ?_⟩
  refine Gv (ch := 10) hb20 hal23 rfl hg20 (by simp; omega) fun a27 n27 c27 w25 hb25 hg25 _ => ⟨_, _, _, rfl, ?_⟩
  have eL : Ae (Fa note ls) = [] ++ [35] ++ note ++ [10] ++ Bq note (Ae ls) := by
   unfold Fa; rw [A9, Gw hl10]; simp
  refine ⟨fun a n c n30 n31 w' => ∃ i : Nat, n31 = i ∧ i ≤ (Ae ls).length ∧ n30 = ((1 + 3 * ((Ae ls).take i).count 10 : Nat) : Int) ∧ Buf w' w.heap.size a n c ([] ++ [35] ++ note ++ [10] ++ Bq note ((Ae ls).take i)) ∧ Grew w w', fun _ _ _ _ n31 _ => (Ae ls).length - n31.toNat,
   ⟨0, rfl, Nat.zero_le _, by simp, by simpa [Bq] using hb25, hg25⟩, ?_⟩
  rintro a29 l29 c29 n30 n31 w32 ⟨i, rfl, hi, rfl, hbf, hg32⟩
  rw [Ay]
  refine ⟨fun hlt => ?_, fun hge => ?_⟩
  ·simp only [decide_eq_true_eq] at hlt
   have hil : i < (Ae ls).length := by omega
   have hget : (bs (Ae ls)).data[((i : Nat) : Int).toNat]? = some (Ae ls)[i] := by rw [Ke, Int.toNat_natCast, List.getElem?_eq_getElem hil]
   have hxl := Jb note ((Ae ls).take i)
   have htk : ((Ae ls).take i).length = i := by rw [List.length_take]; omega
   have hxb : (Bq note ((Ae ls).take i)).length ≤ 3200000 := by
    rw [htk] at hxl
    have : i * (note.length + 4) ≤ 30000 * 104 := Nat.mul_le_mul (by omega) (by omega)
    omega
   have hts : (Ae ls).take (i + 1) = (Ae ls).take i ++ [(Ae ls)[i]] := List.take_succ_eq_append_getElem hil
   have hm : (Ae ls).length - (((i + 1 : Nat) : Int)).toNat < (Ae ls).length - ((i : Nat) : Int).toNat := by omega
   have hcl : ((Ae ls).take i).count 10 ≤ i := by have := List.count_le_length (l := (Ae ls).take i) (a := (10 : UInt8)); omega
   generalize (Ae ls)[i] = ch at hget hts
   refine ⟨ch, ⟨by omega, hget⟩, fun b34 w35 hal34 => ?_⟩
   refine Gv (ch := ch) hbf hal34 rfl hg32 (by simp only [List.length_append, List.length_cons, List.length_nil]; omega) fun a38 n38 c38 w36 hb36 hg36 _ => ⟨_, _, _, rfl, ch, ⟨by omega, hget⟩, fun h10c => ?_, fun hnc => ?_⟩
   ·have hc : ch = 10 := UInt8.toNat_inj.1 (by simp only [beq_iff_eq] at h10c; show ch.toNat = 10; omega)
    subst hc
    refine Kr (s := [10, 35]) hb36 hg36 (by simp only [List.length_append, List.length_cons, List.length_nil]; omega) fun a42 n42 c42 w40 hb40 hg40 _ => ⟨_, _, _, rfl, ?_⟩
    refine Kr hb40 hg40 (by simp only [List.length_append, List.length_cons, List.length_nil]; omega) fun a45 n45 c45 w43 hb43 hg43 _ => ⟨_, _, _, rfl, fun b46 w47 hal46 => ?_⟩
    refine Gv (ch := 10) hb43 hal46 rfl hg43 (by simp only [List.length_append, List.length_cons, List.length_nil]; omega) fun a50 n50 c50 w48 hb48 hg48 _ => ⟨_, _, _, rfl, ?_⟩
    have e3 : IntKind.i64.wrap (((1 + 3 * ((Ae ls).take i).count 10 : Nat) : Int) + 3) = ((1 + 3 * ((Ae ls).take (i + 1)).count 10 : Nat) : Int) := by
     rw [hts, List.count_append, IntKind.wrap_i64]; simp; omega
    rw [Cf (by omega), e3]
    refine ⟨⟨i + 1, rfl, hil, rfl, ?_, hg48⟩, hm⟩
    rw [hts, Eh]
    have : Bq note [10] = [10] ++ [10, 35] ++ note ++ [10] := by simp [Bq]
    rw [this]
    simpa using hb48
   ·have hc : ch ≠ 10 := fun e => by rw [e] at hnc; revert hnc; decide
    rw [Cf (by omega)]
    refine ⟨⟨i + 1, rfl, hil, ?_, ?_, hg36⟩, hm⟩
    ·rw [hts, List.count_append, List.count_singleton]; simp [hc]
    ·rw [hts, Eh, Fb (a := [ch]) (by simpa using fun e => hc e.symm)]
     simpa using hb36
  simp only [decide_eq_false_iff_not] at hge
  have : i = (Ae ls).length := by omega
  subst this
  rw [List.take_length, ← eL] at hbf
  rw [List.take_length, Hn hl10, ← J5 note ls]
  have hL10 := Pg h10 hl10
  have hgoL := Ls (note := note) hgo 0
  have hLs : (Ae (Fa note ls)).length ≤ 100000 := by
   unfold Fa
   have : ls.length * (note.length + 3) ≤ 351 * 103 := Nat.mul_le_mul (by omega) (by omega)
   simp only [A9, List.length_append, List.length_cons, Ja]; omega
  have hLl : (Fa note ls).length ≤ 2000 := by rw [J5]; omega
  generalize Fa note ls = LL at *
  have hstr : ∀ {w' : World} {k : Value → World → Prop}, Grew w32 w' → k (.string (bs (Ae LL))) w' → SemW Tryz.prog (convert 39 9 (.slice a29 l29 c29)) k w' := fun hg hk => Ii uBy uU8 uSt (hbf.grew hg).reads (by rw [G5]; exact hk)
  have pz : ∀ (z : L8) (c0 : UInt8) (zl : L8) (zr : List L8) (wd : L8) (ar : List L8) (e : Int), z.length ≤ 100 → Af 10 z = zl :: zr → Cp zl = false → Af 32 zl = wd :: ar → wd ≠ opW → Di (wd :: ar) = .error e → Bw (Ae LL ++ z) = .error (e, LL.length + 1) := by
   intro z c0 zl zr wd ar e hz h1 h2 h3 h4 h5
   rw [Gu hL10 hgoL (by simp only [List.length_append]; omega), h1]
   simp only [Ai]
   rw [h2, Mo h3 (fun x => h4 x.1) (by omega) e h5]
   rfl
  refine hstr (Grew.refl _) ⟨_, rfl, (D6 (t := Ae LL) (hG.grew hg32)).use fun v w54 ⟨hv, hg54⟩ => ?_⟩
  have hP1 : Bw (Ae LL) = .ok (p, steps) := by
   have := Gu (z := []) hL10 hgoL (by simp; omega)
   rw [List.append_nil] at this
   rw [this]; rfl
  rw [hP1] at hv
  obtain ⟨o', s', rfl, ho', hs'⟩ := C1 hv
  have hg54' := hg32.trans hg54
  refine ⟨_, _, _, _, _, _, _, _, _, _, _, _, _, _, _, rfl, fun w68 hg68 => ⟨fun h => (by cases h), fun _ => ⟨fun h => (by cases h), fun _ => (Lt (ho.grew (hg54'.trans hg68)) (ho'.reads.grew hg68) hpl).use fun v w69 ⟨hv, hg69⟩ => ?_⟩⟩⟩
  subst hv
  have hg69' := hg54'.trans (hg68.trans hg69)
  refine ⟨_, rfl, fun h => ?_, fun _ => (M8 (hs'.reads.grew (hg68.trans hg69)) (hr.grew hg69') (by have := hs'.le; have := hs'.len; omega)).use fun v w73 ⟨hv, hg73⟩ => ?_⟩
  ·simp [pP] at h
  subst hv
  have hg73' := hg69'.trans hg73
  refine ⟨_, rfl, fun h => ?_, fun _ => ?_⟩
  ·simp [pL] at h
  refine hstr (hg54.trans (hg68.trans (hg69.trans hg73))) ⟨_, rfl, _, Dq (b := [116, 105, 99, 107, 32, 116, 111, 99, 107, 10, 116, 105, 99, 107]) (by simp only [List.length_cons, List.length_nil]; omega), (D6 (t := Ae LL ++ [116, 105, 99, 107, 32, 116, 111, 99, 107, 10, 116, 105, 99, 107]) (hG.grew hg73')).use fun v w81 ⟨hv, hg81⟩ => ?_⟩
  rw [pz _ 0 [116, 105, 99, 107, 32, 116, 111, 99, 107] [[116, 105, 99, 107]] [116, 105, 99, 107] [[116, 111, 99, 107]] 211 (by decide) (by kernel_rfl) (by kernel_rfl) (by kernel_rfl) (by decide) Ps] at hv
  obtain ⟨o2, s2, rfl, ho2, hs2⟩ := C1 hv
  have hg81' := hg73'.trans hg81
  have hs20 : s2.2.1 = 0 := hs2.len
  have ew : IntKind.i64.wrap (((LL.length : Nat) : Int) + 1) = ((LL.length + 1 : Nat) : Int) := Cf (by omega)
  rw [ew]
  refine ⟨_, _, _, _, _, _, _, _, _, _, _, _, _, _, _, rfl, fun h => (by cases h), fun _ => ⟨fun h => ?_, fun _ => ⟨fun h => ?_, fun _ => (Lt (q := ⟨0, 0, 0, 0, 0, 0, 0, []⟩) (o' := (none, 0, 0)) ho2.reads Reads.nil (by exact Nat.zero_le _)).use fun v w95 ⟨hv, hg95⟩ => ?_⟩⟩⟩
  ·simp [pA] at h
  ·rw [hs20] at h; cases h
  subst hv
  have hg95' := hg81'.trans hg95
  refine ⟨_, rfl, fun h => ?_, fun _ => ?_⟩
  ·simp [pP] at h
  refine hstr (hg54.trans (hg68.trans (hg69.trans (hg73.trans (hg81.trans hg95))))) ⟨_, rfl, _, Dq (b := [112, 108, 97, 110]) (by simp only [List.length_cons, List.length_nil]; omega), (D6 (t := Ae LL ++ [112, 108, 97, 110]) (hG.grew hg95')).use fun v w103 ⟨hv, hg103⟩ => ?_⟩
  rw [pz _ 0 [112, 108, 97, 110] [] [112, 108, 97, 110] [] 210 (by decide) (by kernel_rfl) (by kernel_rfl) (by kernel_rfl) (by decide) Pt] at hv
  obtain ⟨o3, s3, rfl, ho3, hs3⟩ := C1 hv
  refine ⟨_, _, _, _, _, _, _, _, _, _, _, _, _, _, _, rfl, fun _ => ⟨_, rfl, ?_, hg95'.trans hg103⟩, fun h => (by cases h)⟩
  simp [pA]
open Go.ChangeShapes Go.WideShapes Go.ChangeAt Go.RowKit
set_option maxRecDepth 100000 in
theorem scriptSkips_lifted (os : Os) (started : os.Started) (H : Type) (enc : TypeId × Value → H) :
  ReturnsInHanded {} Tryz.checked os 7 .any (fun w args => (Rows.scriptSkipsSpec.pre enc Tryz.prog Tryz.f7 Rows.scriptSkipsRow.domain false w args ∧ laidMetH Tryz.prog I9 w) ∧ sizedMet enc Tryz.prog Tryz.f7 (OpenSpec.ofChange Rows.scriptSkipsSpec) false w args) (Rows.scriptSkipsSpec.post enc Tryz.prog Tryz.f7 false true false false) := by
 refine returnsInHanded_of_change_and (C := Tryz.checked) (X := fun w _ => laidMetH Tryz.prog I9 w) (fun _ _ _ hh h => h.of_heap hh) own started (by kernel_rfl) Tryz.func7
  (ChangeSpec.witness_shaped (enc := enc) (C := Tryz.checked) (os := os) (X := fun w _ => laidMetH Tryz.prog I9 w) false (World.laidAll Tryz.prog os I9) #[.agg #[.int .i64 0, .int .i64 0, .int .i64 0, .slice none 0 0, .int .i64 0, .int .i64 0, .int .i64 0, .int .i64 0], .slice none 0 0, .string ⟨#[]⟩] 8 (World.laidAll_os _ _ _)
   (World.shaped_of_ZipB (by kernel_rfl) (by kernel_rfl)) (by kernel_rfl) (by kernel_rfl) (by kernel_rfl) (Po os _)) ?_
 intro W base args ds gs before hval0 hW hcnd hsz0 hL0 _
 have hL := Qe hL0
 have hval : ∀ (j : Nat) t v, Tryz.f7.params[j]? = some t → args[j]? = some v → Value.okWide Tryz.prog W .any base t v := hval0
 have hW' := hW
 obtain ⟨p, q, hA0, hV, rfl, hfz, hnd⟩ := hW
 have hA : DataW.TrodAll enc Tryz.prog W 0 (fun _ => true) true Tryz.f7.params.toList args.toList ds p := hA0
 have hsz : (DataW.weightsEach Tryz.prog (Tryz.f7.params.toList ++ _) (ds ++ gs)).all (· ≤ reachBytes) = true := hsz0
 rw [show Tryz.f7.params = #[25, 26, 9] from by kernel_rfl] at hA hval hsz
 have hA1 := hA
 obtain ⟨v0, vs0, d0, ds0, p0, q0, hargs, rfl, rfl, h0, r0⟩ := trodAll_cons hA
 obtain ⟨v1, vs1, d1, ds1, p1, q1, rfl, rfl, rfl, h1, r1⟩ := trodAll_cons r0
 obtain ⟨v2, vs2, d2, ds2, p2, q2, rfl, rfl, rfl, h2, r2⟩ := trodAll_cons r1
 obtain ⟨rfl, rfl, rfl⟩ := trodAll_nil r2
 obtain rfl : args = #[v0, v1, v2] := by cases args; simp_all
 obtain ⟨p0, o0, rfl, hp0⟩ := N0 (j := 0) hsz rfl rfl (hval 0 25 v0 rfl rfl) h0
 obtain ⟨a1, n1, c1, l1, rfl, hr1, hcl1, hn1, hb1⟩ := K3 (P := Tryz.prog) (t := 26) (e := 46) (P0 (e := 46) (j := 1) hsz rfl rfl (by kernel_rfl) (hval 1 26 v1 rfl rfl) h1) (by kernel_rfl) Lu (by kernel_rfl) (B := 40) (by kernel_rfl) (E := Enc.stepE) rfl Pq
 obtain ⟨s2, rfl⟩ := okWide_string (P := Tryz.prog) (t := 9) (by kernel_rfl) (hval 2 9 v2 rfl rfl)
 obtain ⟨t2, rfl⟩ := Qh s2
 clear hA0 hA1 hval0 hsz0
 refine (Aa.calls ⟨_, Tryz.func7, by kernel_rfl, by kernel_rfl⟩ (Jc hL hp0 hr1 hcl1 hn1 hb1)).mono fun e W' ⟨w', hh, hk, v, he, hv, hg⟩ => ?_
 subst he; subst hv
 exact ⟨_, rfl, Nb (tb := 4) (by kernel_rfl) rfl (by kernel_rfl) (by kernel_rfl) ⟨rfl, rfl, rfl⟩ (by decide +kernel) hW' (Oa hg hh hk)⟩
theorem Gx : Rows.ScriptSkipsSaid :=
 OpenClaim.holds_of_wide 7 Tryz.f7 rfl rfl rfl rfl rfl rfl rfl ⟨rfl, rfl, rfl, rfl, rfl⟩ rfl rfl rfl rfl rfl (by kernel_rfl) Tryz.func7 (by kernel_rfl)
  (of_decide_eq_true (by kernel_rfl)) (by unfold Func.isWrapper; first | (rw [if_pos (by decide +kernel)]; kernel_rfl) | (rw [if_neg (by decide +kernel)]; exact ⟨rfl, rfl⟩))
  (fun os started H enc _ => scriptSkips_lifted os started H enc)
theorem scriptSkips_card : Rows.ScriptSkipsCardSaid :=
 Claim7.holds_tied_plain_at .later [] [.data, .data, .data, .data, .sentinel, .sentinel, .pinned] true (true, "b64c46686f643c001f31f6c1b533c0d7c0642b988dd47f138c5c01a8a4cb7604") true Gx (fun _ h => by cases h) (by kernel_rfl) (fun _ h => by cases h) scriptSkips_row_tie rfl ⟨rfl, rfl⟩ (by kernel_rfl) rfl
  (fun f fn hf hfn => by
   obtain rfl : f = 7 := Option.some.inj ((show Tryz.prog.funcNamed "reprise/repriselaw21.ScriptSkips" = some 7 by kernel_rfl).symm.trans hf) |>.symm
   obtain rfl : fn = Tryz.f7 := (Option.some.inj (Tryz.func7.symm.trans hfn)).symm
   exact ⟨by kernel_rfl, fun j t ht => by
    rw [show Tryz.f7.params = #[25, 26, 9] from by kernel_rfl] at ht
    have hm : t ∈ [25, 26, 9] := by simpa using Array.mem_of_getElem? ht
    have hall : ([25, 26, 9].all fun u => !Tryz.prog.wantsStandIn u) = true := by kernel_rfl
    exact (show Tryz.prog.wantsStandIn t = false by simpa using List.all_eq_true.1 hall t hm)⟩)
  (by kernel_rfl)
end Go.Proofs.YtbmmaibbiahkkaaGreatDoor
